/- Joined texts. -/
import Derived.Test.YteaaopodnbjpoaaGreatZ07
import Derived.Test.YteaaopodnbjpoaaGreatZ14
import Derived.Test.YteaaopodnbjpoaaGreatZ10
import Derived.Test.YteaaopodnbjpoaaGreatZ11
import Derived.Test.YteaaopodnbjpoaaGreatZ08
set_option linter.all false
section
set_option maxRecDepth 100000
namespace Go.Proofs.YteaaopodnbjpoaaGreat
open Go Go.Sx Go.RowKit Go.Proofs
def eqL {α : Type} (p : α → α → Bool) : List α → List α → Bool
 | [], [] => true
 | x :: xs, y :: ys => p x y && eqL p xs ys
 | _, _ => false
theorem a1t {α : Type} (p : α → α → Bool) : ∀ {a b : List α}, a.length ≠ b.length → eqL p a b = false
 | [], [], h => by simp at h
 | x :: xs, y :: ys, h => by
  have := a1t p (a := xs) (b := ys) (by simpa using h)
  simp [eqL, this]
 | [], _ :: _, _ => rfl
 | _ :: _, [], _ => rfl
@[go_sem] def jA (a b : Int) : Bool := decide (a = b)
@[go_sem] def b5F (a b : TField) : Bool := decide (a.fName = b.fName) && decide (a.fKind = b.fKind)
@[go_sem] def b7g (a b : TAttr) : Bool := decide (a.fName = b.fName) && (decide (a.fValue.fKind = b.fValue.fKind) && (decide (a.fValue.fInt = b.fValue.fInt) && decide (a.fValue.fStr = b.fValue.fStr)))
@[go_sem] def b7h (a b : TNode) : Bool := decide (a.fOp = b.fOp) && (decide (a.fLeft = b.fLeft) && (decide (a.fRight = b.fRight) && (decide (a.fName = b.fName) && (decide (a.fValue.fKind = b.fValue.fKind) && (decide (a.fValue.fInt = b.fValue.fInt) && decide (a.fValue.fStr = b.fValue.fStr))))))
def b7i (a b : TFile) : Bool := decide (a.fID = b.fID) && (decide (a.fOwner = b.fOwner) && ((a.fShared == b.fShared) && (decide (a.fLink = b.fLink) && eqL b7g a.fAttrs b.fAttrs)))
def b5G (a b : TDir) : Bool := decide (a.fName = b.fName) && eqL b7h a.fQuery b.fQuery
def dL (a b : TResult) : Bool := decide (a.fName = b.fName) && eqL jA a.fIDs b.fIDs
def a9y (a b : TStore) : Bool := eqL b5F a.fSchema b.fSchema && (eqL b7i a.fFiles b.fFiles && decide (a.fNextID = b.fNextID))
def b7D (a b : TSnapshot) : Bool := a9y a.fStore b.fStore && eqL b5G a.fDirs b.fDirs
def b8C (a b : TCatalog) : Bool := a9y a.fStore b.fStore && (eqL b5G a.fDirs b.fDirs && eqL dL a.fResults b.fResults)
theorem nR (a b : List Int) (ha : a.length ≤ 4300000) : FnC Tryz.prog 152 [.o (.d (.sl (a.map fE))), .o (.d (.sl (b.map fE)))] (ob (eqL jA a b)) := by
 have hal : a.length ≤ 4300000 := by omega
 refine ent Tryz.func152 rfl Tryz.call152 rfl (fun C => ?_); simp only [go_sem, st0, Tryz.ntmps152]
 refine aD ?_
 refine cnd rfl (fun h0 => ?_) (fun h0 => ?_)
 ·have e : eqL jA a b = false := a1t _ (by simp only [Bool.not_eq_true', decide_eq_false_iff_not] at h0; omega)
  refine aD ?_
  exact aA ⟨⟨_, rfl, by simp only [go_sem, e]⟩, trivial⟩
 have h0 : a.length = b.length := by simpa [Int.ofNat_inj] using h0
 refine aD ?_
 refine aN (α := Nat) (fun k => [(5, oi k)]) (fun _ => []) (fun k => k ≤ a.length ∧ eqL jA a b = eqL jA (a.drop k) (b.drop k)) (fun k => a.length - k) 0 (fun _ => ?_) ?_ ?_ (fun k hk => ?_)
 ·simp only [go_sem]
 ·simp only [go_sem]; simp
 ·simp
 ·obtain ⟨hk, hq⟩ := hk
  simp only [go_sem]
  refine aD ?_
  refine cnd rfl (fun h => ?_) (fun h => ?_)
  ·simp only [decide_eq_true_eq, Int.ofNat_lt] at h
   have hb : k < b.length := by omega
   rw [List.drop_eq_getElem_cons h, List.drop_eq_getElem_cons hb, eqL] at hq
   have q0 := @h; have q1 := @hb; refine lF ?_
   refine cnd (b := !(jA a[k] b[k])) (by rfl) (fun h2 => ?_) (fun h2 => ?_)
   ·simp only [Bool.not_eq_true'] at h2
    rw [h2, Bool.false_and] at hq
    refine aD ?_
    exact aA ⟨⟨_, rfl, by simp only [go_sem, hq]⟩, trivial⟩
   ·simp only [Bool.not_eq_false'] at h2
    rw [h2, Bool.true_and] at hq
    refine aD ?_
    refine aF (k + 1) ?_ ?_ ?_
    ·simp only [go_sem]; simp
    ·exact ⟨h, hq⟩
    ·omega
  ·simp only [decide_eq_false_iff_not] at h
   have e : k = a.length := by omega
   subst e
   rw [List.drop_length, List.drop_of_length_le (by omega), eqL] at hq
   refine aD ?_
   exact aA ⟨⟨_, rfl, by simp only [go_sem, hq]⟩, trivial⟩
theorem rP (a b : List Int) (ha : a.length ≤ 4300000) : FnC Tryz.prog 170 [.o (.d (.sl (a.map fE))), .o (.d (.sl (b.map fE)))] (ob (eqL jA a b)) := by
 have hal : a.length ≤ 4300000 := by omega
 refine ent Tryz.func170 rfl Tryz.call170 rfl (fun C => ?_); simp only [go_sem, st0, Tryz.ntmps170]
 refine aD ?_
 refine cnd rfl (fun h0 => ?_) (fun h0 => ?_)
 ·have e : eqL jA a b = false := a1t _ (by simp only [Bool.not_eq_true', decide_eq_false_iff_not] at h0; omega)
  refine aD ?_
  exact aA ⟨⟨_, rfl, by simp only [go_sem, e]⟩, trivial⟩
 have h0 : a.length = b.length := by simpa [Int.ofNat_inj] using h0
 refine aD ?_
 refine aN (α := Nat) (fun k => [(13, oi k)]) (fun _ => []) (fun k => k ≤ a.length ∧ eqL jA a b = eqL jA (a.drop k) (b.drop k)) (fun k => a.length - k) 0 (fun _ => ?_) ?_ ?_ (fun k hk => ?_)
 ·simp only [go_sem]
 ·simp only [go_sem]; simp
 ·simp
 ·obtain ⟨hk, hq⟩ := hk
  simp only [go_sem]
  refine aD ?_
  refine cnd rfl (fun h => ?_) (fun h => ?_)
  ·simp only [decide_eq_true_eq, Int.ofNat_lt] at h
   have hb : k < b.length := by omega
   rw [List.drop_eq_getElem_cons h, List.drop_eq_getElem_cons hb, eqL] at hq
   have q0 := @h; have q1 := @hb; refine lF ?_
   refine cnd (b := !(jA a[k] b[k])) (by rfl) (fun h2 => ?_) (fun h2 => ?_)
   ·simp only [Bool.not_eq_true'] at h2
    rw [h2, Bool.false_and] at hq
    refine aD ?_
    exact aA ⟨⟨_, rfl, by simp only [go_sem, hq]⟩, trivial⟩
   ·simp only [Bool.not_eq_false'] at h2
    rw [h2, Bool.true_and] at hq
    refine aD ?_
    refine aF (k + 1) ?_ ?_ ?_
    ·simp only [go_sem]; simp
    ·exact ⟨h, hq⟩
    ·omega
  ·simp only [decide_eq_false_iff_not] at h
   have e : k = a.length := by omega
   subst e
   rw [List.drop_length, List.drop_of_length_le (by omega), eqL] at hq
   refine aD ?_
   exact aA ⟨⟨_, rfl, by simp only [go_sem, hq]⟩, trivial⟩
theorem zD (a b : List TResult) (ha : aH a ≤ 4300000) : FnC Tryz.prog 81 [.o (.d (.sl (a.map aJ))), .o (.d (.sl (b.map aJ)))] (ob (eqL dL a b)) := by
 have hal : a.length ≤ 4300000 := by unfold aH at ha; omega
 refine ent Tryz.func81 rfl Tryz.call81 rfl (fun C => ?_); simp only [go_sem, st0, Tryz.ntmps81]
 refine aD ?_
 refine cnd rfl (fun h0 => ?_) (fun h0 => ?_)
 ·have e : eqL dL a b = false := a1t _ (by simp only [Bool.not_eq_true', decide_eq_false_iff_not] at h0; omega)
  refine aD ?_
  exact aA ⟨⟨_, rfl, by simp only [go_sem, e]⟩, trivial⟩
 have h0 : a.length = b.length := by simpa [Int.ofNat_inj] using h0
 refine aD ?_
 refine aN (α := Nat) (fun k => [(5, oi k)]) (fun _ => []) (fun k => k ≤ a.length ∧ eqL dL a b = eqL dL (a.drop k) (b.drop k)) (fun k => a.length - k) 0 (fun _ => ?_) ?_ ?_ (fun k hk => ?_)
 ·simp only [go_sem]
 ·simp only [go_sem]; simp
 ·simp
 ·obtain ⟨hk, hq⟩ := hk
  simp only [go_sem]
  refine aD ?_
  refine cnd rfl (fun h => ?_) (fun h => ?_)
  ·simp only [decide_eq_true_eq, Int.ofNat_lt] at h
   have hb : k < b.length := by omega
   rw [List.drop_eq_getElem_cons h, List.drop_eq_getElem_cons hb, eqL] at hq
   have hw := bA wResult a h
   have hv : a[k].fIDs.length ≤ wResult a[k] := by unfold wResult; omega
   have hx : a[k].fIDs.length ≤ 4300000 := by unfold aH at ha; omega
   by_cases h1 : a[k].fName = b[k].fName
   case neg =>
    have h2 : dL a[k] b[k] = false := by simp [dL, h1]
    rw [h2, Bool.false_and] at hq
    have q0 := @h; have q1 := @hb; have q2 := @h1; have q3 := @decide_false; refine mW ?_
    exact aA ⟨⟨_, rfl, by simp only [go_sem, hq]⟩, trivial⟩
   have h3 : dL a[k] b[k] = eqL jA a[k].fIDs b[k].fIDs := by simp [dL, h1]
   have q0 := @h; have q1 := @hb; have q2 := @h1; have q3 := @decide_false; refine a1J (nR a[k].fIDs b[k].fIDs hx) ?_
   refine cnd (b := !(dL a[k] b[k])) (by rw [h3]; try rfl) (fun h2 => ?_) (fun h2 => ?_)
   ·simp only [Bool.not_eq_true'] at h2
    rw [h2, Bool.false_and] at hq
    refine aD ?_
    exact aA ⟨⟨_, rfl, by simp only [go_sem, hq]⟩, trivial⟩
   ·simp only [Bool.not_eq_false'] at h2
    rw [h2, Bool.true_and] at hq
    refine aD ?_
    refine aF (k + 1) ?_ ?_ ?_
    ·simp only [go_sem]; simp
    ·exact ⟨h, hq⟩
    ·omega
  ·simp only [decide_eq_false_iff_not] at h
   have e : k = a.length := by omega
   subst e
   rw [List.drop_length, List.drop_of_length_le (by omega), eqL] at hq
   refine aD ?_
   exact aA ⟨⟨_, rfl, by simp only [go_sem, hq]⟩, trivial⟩
theorem yA (x y : TResult) (h : wResult x ≤ 4300000) : FnC Tryz.prog 169 [yO x, yO y] (ob (dL x y)) := by
 have hx : x.fIDs.length ≤ 4300000 := by unfold wResult at h; omega
 refine ent Tryz.func169 rfl Tryz.call169 rfl (fun C => ?_); simp only [go_sem, st0, Tryz.ntmps169]
 by_cases h1 : x.fName = y.fName
 case neg =>
  have q0 := @h1; have q1 := @decide_false; refine lF ?_
  exact aA ⟨⟨_, rfl, by simp only [go_sem, dL, h1, decide_false, Bool.false_and]⟩, trivial⟩
 have q0 := @h1; have q1 := @decide_false; refine mM (rP x.fIDs y.fIDs hx) ?_
 exact aA ⟨⟨_, rfl, by simp only [go_sem, dL, h1, Bool.true_and]⟩, trivial⟩
theorem a1X (a b : List TResult) (ha : aH a ≤ 4300000) : FnC Tryz.prog 168 [.o (.d (.sl (a.map aJ))), .o (.d (.sl (b.map aJ))), .o (.f 169 [])] (ob (eqL dL a b)) := by
 have hal : a.length ≤ 4300000 := by unfold aH at ha; omega
 refine ent Tryz.func168 rfl Tryz.call168 rfl (fun C => ?_); simp only [go_sem, st0, Tryz.ntmps168]
 refine aD ?_
 refine cnd rfl (fun h0 => ?_) (fun h0 => ?_)
 ·have e : eqL dL a b = false := a1t _ (by simp only [Bool.not_eq_true', decide_eq_false_iff_not] at h0; omega)
  refine aD ?_
  exact aA ⟨⟨_, rfl, by simp only [go_sem, e]⟩, trivial⟩
 have h0 : a.length = b.length := by simpa [Int.ofNat_inj] using h0
 refine aD ?_
 refine aN (α := Nat) (fun k => [(17, oi k)]) (fun _ => []) (fun k => k ≤ a.length ∧ eqL dL a b = eqL dL (a.drop k) (b.drop k)) (fun k => a.length - k) 0 (fun _ => ?_) ?_ ?_ (fun k hk => ?_)
 ·simp only [go_sem]
 ·simp only [go_sem]; simp
 ·simp
 ·obtain ⟨hk, hq⟩ := hk
  simp only [go_sem]
  refine aD ?_
  refine cnd rfl (fun h => ?_) (fun h => ?_)
  ·simp only [decide_eq_true_eq, Int.ofNat_lt] at h
   have hb : k < b.length := by omega
   rw [List.drop_eq_getElem_cons h, List.drop_eq_getElem_cons hb, eqL] at hq
   have q0 := @h; have q1 := @hb; refine mM (yA a[k] b[k] (by have := bA wResult a h; unfold aH at ha; omega)) ?_
   refine cnd (b := !(dL a[k] b[k])) (by rfl) (fun h2 => ?_) (fun h2 => ?_)
   ·simp only [Bool.not_eq_true'] at h2
    rw [h2, Bool.false_and] at hq
    refine aD ?_
    exact aA ⟨⟨_, rfl, by simp only [go_sem, hq]⟩, trivial⟩
   ·simp only [Bool.not_eq_false'] at h2
    rw [h2, Bool.true_and] at hq
    refine aD ?_
    refine aF (k + 1) ?_ ?_ ?_
    ·simp only [go_sem]; simp
    ·exact ⟨h, hq⟩
    ·omega
  ·simp only [decide_eq_false_iff_not] at h
   have e : k = a.length := by omega
   subst e
   rw [List.drop_length, List.drop_of_length_le (by omega), eqL] at hq
   refine aD ?_
   exact aA ⟨⟨_, rfl, by simp only [go_sem, hq]⟩, trivial⟩
theorem zG (a b : List TResult) (ha : aH a ≤ 4300000) : FnC Tryz.prog 98 [.o (.d (.sl (a.map aJ))), .o (.d (.sl (b.map aJ)))] (ob (eqL dL a b)) := by
 refine ent Tryz.func98 rfl Tryz.call98 rfl (fun C => ?_); simp only [go_sem, st0, Tryz.ntmps98]
 refine gP (a1X a b ha) ?_
 exact aA ⟨⟨_, rfl, by simp only [go_sem]⟩, trivial⟩
end Go.Proofs.YteaaopodnbjpoaaGreat
end
section
set_option maxRecDepth 100000
set_option maxHeartbeats 4000000
namespace Go.Proofs.YteaaopodnbjpoaaGreat
open Go Go.Sx Go.RowKit Go.Proofs
def pW (d : List TDir) (L : List Nat) : Nat := (a1l L + 1).toNat
noncomputable def evX (s : TStore) (d : List TDir) (r : List TResult) (ns : List ByteArray) : List TResult × Nat := if lH d && bR s then allE s.fFiles d (resL d) ns (s.fFiles.length + aH r) r (pW d (resL d)) else ([], 0)
noncomputable def evB (s : TStore) (d : List TDir) : Bool := lH d && bR s
theorem pX {d : List TDir} (h : lH d = true) : bJ d = true ∧ Least d.length (EE d) (resL d) := by
 unfold lH at h
 split at h
 ·rename_i hv
  refine ⟨hv, ?_⟩
  unfold a2E at h
  split at h
  ·rename_i hx
   have hex : ∃ L, Least d.length (EE d) L := by
    have hends := a6x (tK d) (gZ d) (fun x => Iff.rfl) (d.length * d.length + 2) (by omega)
    simp only at hends
    split at hends
    ·exact ⟨_, hends⟩
    ·exact (hends hx).elim
   obtain ⟨L, hL⟩ := hex
   have e : resL d = L := by unfold resL; rw [if_pos hv]; exact a7J hL
   rw [e]; exact hL
  ·cases h
 ·cases h
theorem xU {d : List TDir} (h : bJ d = true) (i : Nat) (hi : i < d.length) : d[i].fName.size ≤ 6 := by
 unfold bJ at h
 simp only [Bool.and_eq_true, List.all_eq_true, List.mem_range] at h
 have := h.1 i hi
 unfold jI at this
 rw [List.getElem?_eq_getElem hi] at this
 simp only [Bool.and_eq_true] at this
 have := b3y this.1
 omega
theorem lS {s : TStore} (h : bR s = true) : s.fFiles.length ≤ 12 := by
 unfold bR at h
 simp only [Bool.and_eq_true, decide_eq_true_eq] at h
 omega
theorem vW {α : Type} (w : α → Nat) (c : Nat) : ∀ l : List α, (∀ i, (h : i < l.length) → w l[i] ≤ c) → wsum w l ≤ l.length * c
 | [], _ => by simp [wsum]
 | x :: l, h => by
  have h0 := h 0 (by simp)
  have h1 := vW w c l fun i hi => h (i + 1) (by simpa using hi)
  simp only [List.getElem_cons_zero] at h0
  simp only [wsum, List.length_cons, Nat.succ_mul]
  omega
theorem Ev.get {fs : List TFile} {d : List TDir} {L : List Nat} {ns : List ByteArray} {c k : Nat} {R : List TResult} (h : Ev fs d L ns c k R) (i : Nat) (hi : i < d.length) : (R[i]'(by rw [h.len]; exact hi)).fName = d[i].fName ∧ (R[i]'(by rw [h.len]; exact hi)).fIDs = fA R i := by
 have hlen := h.len
 have hR : i < R.length := by omega
 refine ⟨?_, ?_⟩
 ·have := congrArg (fun l : List ByteArray => l[i]?) h.nm
  simp only [List.getElem?_map] at this
  rw [List.getElem?_eq_getElem hR, List.getElem?_eq_getElem hi] at this
  simpa using this
 ·simp [fA, List.getD_eq_getElem?_getD, hR]
theorem Ev.w {fs : List TFile} {d : List TDir} {L : List Nat} {ns : List ByteArray} {c k : Nat} {R : List TResult} (h : Ev fs d L ns c k R) (hv : bJ d = true) (hc : c ≤ 4300012) : aH R ≤ 67108864 := by
 have hlen := h.len
 have h5 := jG hv
 have hb := vW wResult 4300018 R fun i hi => by
  obtain ⟨e1, e2⟩ := h.get i (by omega)
  have h1 := xU hv i (by omega)
  have h2 := h.bd i
  unfold wResult
  rw [e1, e2]
  omega
 unfold aH
 have : R.length * 4300018 ≤ 5 * 4300018 := Nat.mul_le_mul_right _ (by omega)
 omega
theorem b5r (R : List TResult) (i : Nat) (nm : ByteArray) (l : List Int) : (R.map aJ).set i [sv nm, .sl (l.map fE)] = (R.set i ⟨nm, l⟩).map aJ := by rw [List.map_set]; rfl
theorem vX (a b : List Int) : eqL jA a b = decide (a = b) := by
 induction a generalizing b with
 | nil => cases b <;> simp [eqL]
 | cons x a ih =>
  cases b with
  | nil => simp [eqL]
  | cons y b =>
   simp only [eqL, ih, jA]
   by_cases h1 : x = y <;> by_cases h2 : a = b <;> simp [h1, h2]
theorem xV (ns : List ByteArray) (r : List TResult) (d : List TDir) (k : Nat) (h : k < d.length) : gJ ns r (d.take (k + 1)) = gJ ns r (d.take k) ++ [⟨d[k].fName, if hasS ns d[k].fName then [] else aU d[k].fName r⟩] := by
 unfold gJ; rw [List.take_succ_eq_append_getElem h, List.map_append]; rfl
theorem a0i (ns : List ByteArray) (r : List TResult) (d : List TDir) (k : Nat) : (gJ ns r (d.take k)).length ≤ k := by unfold gJ; simp; omega
theorem b6W (d : List TDir) (k : Nat) (h : k < d.length) : hasS (dirNs d) d[k].fName = true := by
 rw [kF]
 exact List.mem_map.2 ⟨d[k], List.getElem_mem h, rfl⟩
def chB (fs : List TFile) (d : List TDir) (L : List Nat) (ns : List ByteArray) (k i : Nat) (R : List TResult) : Bool := decide (jB R < jB (passT fs d L ns k i R))
theorem b6Y (l : List Nat) (m : Int) : m ≤ xW l m := by
 induction l generalizing m with
 | nil => simp [xW]
 | cons x l ih =>
  simp only [xW]
  split
  ·have := ih (x : Int); omega
  ·exact ih m
theorem b6Z (l : List Nat) (m c : Int) (hm : m ≤ c) (h : ∀ x ∈ l, (x : Int) ≤ c) : xW l m ≤ c := by
 induction l generalizing m with
 | nil => exact hm
 | cons x l ih =>
  simp only [xW]
  refine ih _ ?_ fun y hy => h y (List.mem_cons_of_mem _ hy)
  split
  ·exact h x (by simp)
  ·exact hm
theorem b0T {d : List TDir} {L : List Nat} (h : Least d.length (EE d) L) : a1l L ≤ (d.length : Int) := by
 obtain ⟨G, hG, hs⟩ := a1U (tK d) h.clo
 refine b6Z L (-1) _ (by omega) fun x hx => ?_
 obtain ⟨i, hi, rfl⟩ := List.mem_iff_getElem.1 hx
 have h1 := h.le G hG i
 have h2 := hs i (by rw [← h.clo.len]; exact hi)
 rw [rJ L i hi]
 omega
theorem a6q (fs : List TFile) (d : List TDir) (L : List Nat) (ns : List ByteArray) (k : Nat) : ∀ (F : Nat) (x : List TResult × Nat), (zN fs d L ns k F x).2 ≤ x.2 + F
 | 0, x => by simp [zN]
 | F + 1, x => by
  unfold zN
  split
  ·have := a6q fs d L ns k F (passT fs d L ns k d.length x.1, x.2 + 1)
   simp only at this
   omega
  ·simp only; omega
theorem a1k (fs : List TFile) (d : List TDir) (L : List Nat) (ns : List ByteArray) (c : Nat) (r : List TResult) : ∀ k, (allE fs d L ns c r k).2 ≤ k * (d.length * c + 1)
 | 0 => by simp [allE]
 | k + 1 => by
  have h1 := a1k fs d L ns c r k
  have h2 := a6q fs d L ns k (d.length * c + 1) (allE fs d L ns c r k)
  simp only [allE, Nat.succ_mul]
  omega
theorem tF (d : List TDir) (L : List Nat) (k : Nat) : (k : Int) ≤ a1l L ↔ k < pW d L := by
 have : -1 ≤ a1l L := b6Y L (-1)
 unfold pW
 omega
theorem a4D {fs : List TFile} {d : List TDir} {L : List Nat} {ns : List ByteArray} {k i : Nat} {R : List TResult} (h : passT fs d L ns k (i + 1) R = passT fs d L ns k i R) : chB fs d L ns k (i + 1) R = chB fs d L ns k i R := by unfold chB; rw [h]
theorem a6r (s : TStore) (d : List TDir) (r : List TResult) (ns : List ByteArray) (hs : aL s ≤ 4300000) (hd : aP d ≤ 4300000) (hr : aH r ≤ 4300000) (hns : ns.length ≤ 4300000) : FnC Tryz.prog 166 [cZ s, .o (.d (.sl (d.map aM))), .o (.d (.sl (r.map aJ))), .o (.d (.sl (ns.map bV)))] (.t [(false, [.w 141 2 ((evX s d r ns).1.map aJ)]), (false, [.d (iv ((evX s d r ns).2 : Nat))]), (false, [.d (bv (evB s d))])]) := by
 have hd0 : d.length + wsum wDir d ≤ 4300000 := hd
 have hs0 : aT s.fSchema + (s.fFiles.length + wsum wFile s.fFiles) ≤ 4300000 := hs
 refine ent Tryz.func166 rfl Tryz.call166 rfl (fun C => ?_); simp only [go_sem, st0, Tryz.ntmps166]
 cases hb : lH d
 ·have e1 : evX s d r ns = ([], 0) := by simp [evX, hb]
  have e2 : evB s d = false := by simp [evB, hb]
  have q0 := @hb; refine fC (iL d hd) ?_
  exact aA ⟨⟨_, rfl, by simp only [go_sem, e1, e2, List.map_nil]; simp⟩, by simp [aK]⟩
 cases hst : bR s
 ·have e1 : evX s d r ns = ([], 0) := by simp [evX, hst]
  have e2 : evB s d = false := by simp [evB, hst]
  have q0 := @hb; have q1 := @hst; refine uU (iL d hd) (eO s hs) ?_
  exact aA ⟨⟨_, rfl, by simp only [go_sem, e1, e2, List.map_nil]; simp⟩, by simp [aK]⟩
 obtain ⟨hv, hleast⟩ := pX hb
 have hclo := hleast.clo
 have hvq := fun i (hi : i < d.length) => kM hv i hi
 have h5 := jG hv
 have h12 := lS hst
 have hLl := hclo.len
 obtain ⟨CC, hCC⟩ : ∃ c, s.fFiles.length + aH r = c := ⟨_, rfl⟩
 have hC2 : CC ≤ 4300012 := by omega
 have e1 : evX s d r ns = allE s.fFiles d (resL d) ns CC r (pW d (resL d)) := by simp [evX, hb, hst, hCC]
 have e2 : evB s d = true := by simp [evB, hb, hst]
 have q0 := @hb; have q1 := @hst; refine uU (iL d hd) (eO s hs) ?_
 refine aN (α := Nat) (fun k => [(13, .o (.s 2)), (35, .o .u), (38, oi k)]) (fun k => [(2, .row 141 2 ((gJ ns r (d.take k)).map aJ) true)]) (fun k => k ≤ d.length) (fun k => d.length - k) 0 (fun _ => ?_) ?_ ?_ (fun k hk => ?_)
 ·simp only [go_sem]
 ·simp only [go_sem]; simp [gJ]
 ·simp
 ·simp only [go_sem]
  refine aD ?_
  refine cnd rfl (fun h => ?_) (fun h => ?_)
  ·simp only [decide_eq_true_eq, Int.ofNat_lt] at h
   have hsl := a0i ns r d k
   have hl1 : (gJ ns r (d.take k)).length + 1 ≤ 140737488355328 := by omega
   have hl2 : ((gJ ns r (d.take k)).length + 1) * 40 ≤ 140737488355328 := by omega
   have hsu := xV ns r d k h
   cases hn : hasS ns d[k].fName
   ·rw [hn] at hsu
    have q0 := @h; have q1 := @hn; have q2 := @hl1; have q3 := @hl2; refine a0c (eZ ns d[k].fName hns) (nI r d[k].fName (by omega)) ?_
    refine aF (k + 1) ?_ ?_ ?_
    ·simp only [go_sem, hsu, List.map_append]; simp [aJ]
    ·omega
    ·omega
   ·rw [hn] at hsu
    have q0 := @h; have q1 := @hn; have q2 := @hl1; have q3 := @hl2; refine a1J (eZ ns d[k].fName hns) ?_
    refine aF (k + 1) ?_ ?_ ?_
    ·simp only [go_sem, hsu, List.map_append]; simp [aJ]
    ·omega
    ·omega
  ·simp only [decide_eq_false_iff_not] at h
   have e : k = d.length := by omega
   subst e
   rw [List.take_length]
   generalize hL : resL d = L at *
   refine aD ?_
   refine aN (α := Nat) (fun k => [(17, oi ((allE s.fFiles d L ns CC r k).2 : Nat)), (18, oi k)]) (fun k => [(2, .row 141 2 ((allE s.fFiles d L ns CC r k).1.map aJ) true)]) (fun k => k ≤ pW d L) (fun k => pW d L - k) 0 (fun _ => ?_) ?_ ?_ (fun k hk => ?_)
   ·simp only [go_sem]
   ·simp only [go_sem]; simp [allE]
   ·simp
   ·simp only [go_sem]
    have q0 := @hL; refine fC (b0U d hd (by rw [hL]; omega)) ?_
    refine cnd rfl (fun hlev => ?_) (fun hlev => ?_)
    ·simp only [decide_eq_true_eq] at hlev
     have hkK := (tF d L k).1 hlev
     have hev := wB (fs := s.fFiles) (ns := ns) (r := r) hvq hclo k
     rw [hCC] at hev
     have htop := b0T hleast
     have hcnt := a1k s.fFiles d L ns CC r k
     have hnm : d.length * CC ≤ 5 * 4300012 := Nat.mul_le_mul h5 hC2
     have hcnt2 : k * (d.length * CC + 1) ≤ 5 * 21500061 := Nat.mul_le_mul (by omega) (by omega)
     have hround : Round s.fFiles d L ns CC k (allE s.fFiles d L ns CC r (k + 1)) ((allE s.fFiles d L ns CC r k).1, (allE s.fFiles d L ns CC r k).2, true) := Round.start hev
     generalize hT : allE s.fFiles d L ns CC r (k + 1) = T at *
     generalize allE s.fFiles d L ns CC r k = X at *
     refine aD ?_
     refine aN (α := List TResult × Nat × Bool) (fun x => [(17, oi (x.2.1 : Nat)), (19, ob x.2.2)]) (fun x => [(2, .row 141 2 (x.1.map aJ) true)]) (fun x => Round s.fFiles d L ns CC k T (x.1, x.2.1, x.2.2) ∧ x.2.1 ≤ X.2 + jB x.1 + (if x.2.2 then 0 else 1)) (fun x => if x.2.2 then d.length * CC + 1 - jB x.1 else 0) (X.1, X.2, true) (fun _ => ?_) ?_ ?_ (fun x hx => ?_)
     ·simp only [go_sem]
     ·simp only [go_sem]; simp
     ·exact ⟨hround, by simp⟩
     ·obtain ⟨R, c, b⟩ := x
      obtain ⟨hx, hcb⟩ := hx
      simp only at hcb
      simp only [go_sem]
      refine aD ?_
      refine cnd rfl (fun hbt => ?_) (fun hbt => ?_)
      ·subst hbt
       have hRe : Ev s.fFiles d L ns CC k R := hx.ev
       have hRt := hRe.tot
       simp only [if_true, Nat.add_zero] at hcb
       have hcI : c ≤ 1000000000 := by omega
       have hpass := hx.pass hvq hclo
       refine aD ?_
       refine aN (α := Nat) (fun i => [(19, ob (chB s.fFiles d L ns k i R)), (71, oi i)]) (fun i => [(2, .row 141 2 ((passT s.fFiles d L ns k i R).map aJ) true)]) (fun i => i ≤ d.length) (fun i => d.length - i) 0 (fun _ => ?_) ?_ ?_ (fun i hi => ?_)
       ·simp only [go_sem]
       ·simp only [go_sem]; simp [chB, passT]
       ·simp
       ·simp only [go_sem]
        refine aD ?_
        refine cnd rfl (fun h => ?_) (fun h => ?_)
        ·simp only [decide_eq_true_eq, Int.ofNat_lt] at h
         have hEv := kW hvq hclo i R (by omega) hRe
         have hcs := kG hvq hclo i R (by omega) hRe
         have hsu := qC s.fFiles d L ns k i R h
         have hchk : passT s.fFiles d L ns k (i + 1) R = passT s.fFiles d L ns k i R → chB s.fFiles d L ns k (i + 1) R = chB s.fFiles d L ns k i R := a4D
         have hchn : jB R < jB (passT s.fFiles d L ns k (i + 1) R) → chB s.fFiles d L ns k (i + 1) R = true := fun hx => by unfold chB; exact decide_eq_true hx
         have hw := hEv.w hv hC2
         obtain ⟨g1, g2⟩ := hEv.get i h
         have hPl := hEv.len
         have hbd := hEv.bd i
         have hwd := bA wDir d h
         have hwq : bT d[i].fQuery ≤ wDir d[i] := by unfold wDir; omega
         have hgrow := fun hin hik hne => hEv.grow h hin hik hne
         have hsame := fun he => yV hEv h he
         generalize passT s.fFiles d L ns k i R = P at *
         generalize hP2 : passT s.fFiles d L ns k (i + 1) R = P2 at *
         have hiP : i < P.length := by omega
         have hiL : i < L.length := by omega
         have hg := rJ L i hiL
         have hsl := a1r s.fFiles d[i].fQuery P
         by_cases hik : lv L i = k
         ·have hkI : ((lv L i : Nat) : Int) = ((k : Nat) : Int) := by omega
          cases hn : hasS ns d[i].fName
          ·rw [if_neg (fun h => by rw [hn] at h; cases h.2)] at hsu
           have q0 := @h; have q1 := @hiP; have q2 := @hiL; have q3 := @hg; have q4 := @hkI; have q5 := @hn; have q6 := @decide_true; have q7 := @decide_false; refine a2Q (eZ ns d[i].fName hns) ?_
           refine aF (i + 1) ?_ ?_ ?_
           ·simp only [go_sem, hP2, hchk hsu, hsu]; simp
           ·omega
           ·omega
          ·rw [if_pos ⟨hik, hn⟩] at hsu
           by_cases he : kX s.fFiles d[i].fQuery P = fA P i
           ·have hE : eqL jA (kX s.fFiles d[i].fQuery P) (fA P i) = true := by rw [vX]; exact decide_eq_true he
            have hPP : P2 = P := by rw [hsu, hsame he]
            have qH := aI @h (aI @hiP (aI @hiL (aI @hg (aI @hkI (aI @g1 (aI @g2 (aI @hE (aI @hn (aI @decide_true @decide_false))))))))); repeat' (with_reducible first | refine nY ?_ | (refine mX ?_; try simp only [go_sem, qH]) | refine kD ?_ | refine rD ?_ | refine cP (eZ ns d[i].fName hns) ?_ | refine vR (a1m s d[i].fQuery P hs (by omega) hw) ?_ | refine vD (a1m s d[i].fQuery P hs (by omega) hw) ?_ | refine vL (rP (kX s.fFiles d[i].fQuery P) (fA P i) (by omega)) ?_ | refine aO ?_ | fail)
            refine aF (i + 1) ?_ ?_ ?_
            ·simp only [go_sem, hP2, hchk hPP, hPP]; simp
            ·omega
            ·omega
           ·have hE : eqL jA (kX s.fFiles d[i].fQuery P) (fA P i) = false := by rw [vX]; exact decide_eq_false he
            have hlt := hgrow hn hik he
            have hch2 : chB s.fFiles d L ns k (i + 1) R = true := hchn (by
             rw [hsu]
             rcases hcs with e | e
             ·rw [← e]; exact hlt
             ·omega)
            have qH := aI @h (aI @hiP (aI @hiL (aI @hg (aI @hkI (aI @g1 (aI @g2 (aI @hE (aI @hn (aI @decide_true @decide_false))))))))); repeat' (with_reducible first | refine nY ?_ | (refine mX ?_; try simp only [go_sem, qH]) | refine kD ?_ | refine rD ?_ | refine cP (eZ ns d[i].fName hns) ?_ | refine vR (a1m s d[i].fQuery P hs (by omega) hw) ?_ | refine vD (a1m s d[i].fQuery P hs (by omega) hw) ?_ | refine vL (rP (kX s.fFiles d[i].fQuery P) (fA P i) (by omega)) ?_ | refine aO ?_ | fail)
            refine aF (i + 1) ?_ ?_ ?_
            ·simp only [go_sem, hP2, hch2, hsu, xZ, ← b5r]; simp
            ·omega
            ·omega
         ·rw [if_neg (fun h => hik h.1)] at hsu
          have hkI : ¬ ((lv L i : Nat) : Int) = ((k : Nat) : Int) := by omega
          have q0 := @h; have q1 := @hiP; have q2 := @hiL; have q3 := @hg; have q4 := @hkI; have q5 := @decide_true; have q6 := @decide_false; refine a7f ?_
          refine aF (i + 1) ?_ ?_ ?_
          ·simp only [go_sem, hP2, hchk hsu, hsu]; simp
          ·omega
          ·omega
        ·simp only [decide_eq_false_iff_not] at h
         have e : i = d.length := by omega
         subst e
         have hPe := kW hvq hclo d.length R (Nat.le_refl _) hRe
         have hPt := hPe.tot
         refine aD ?_
         refine aF (passT s.fFiles d L ns k d.length R, c + 1, chB s.fFiles d L ns k d.length R) ?_ ?_ ?_
         ·simp only [go_sem]; simp
         ·refine ⟨hpass, ?_⟩
          simp only
          have hpc := kG hvq hclo d.length R (Nat.le_refl _) hRe
          cases hcb2 : chB s.fFiles d L ns k d.length R with
          | false =>
           have h9 : jB R ≤ jB (passT s.fFiles d L ns k d.length R) := by
            rcases hpc with e | e
            ·rw [e]; exact Nat.le_refl _
            ·omega
           simp only [Bool.false_eq_true, if_false]; omega
          | true =>
           have := of_decide_eq_true hcb2
           simp only [if_true]; omega
         ·simp only [if_true]
          cases hcb3 : chB s.fFiles d L ns k d.length R with
          | false => simp only [Bool.false_eq_true, if_false]; omega
          | true =>
           have := of_decide_eq_true hcb3
           simp only [if_true]; omega
      ·subst hbt
       have hTe := hx.fin rfl
       simp only at hTe
       refine aD ?_
       refine aF (k + 1) ?_ ?_ ?_
       ·simp only [go_sem, hT, hTe]; simp
       ·omega
       ·omega
    ·simp only [decide_eq_false_iff_not] at hlev
     have hkK : ¬ k < pW d L := fun h => hlev ((tF d L k).2 h)
     have e : k = pW d L := by omega
     subst e
     refine aD ?_
     exact aA ⟨⟨_, rfl, by simp only [go_sem, e1, e2]; try simp⟩, by simp [aK]⟩
end Go.Proofs.YteaaopodnbjpoaaGreat
end
section
set_option maxRecDepth 100000
set_option maxHeartbeats 4000000
namespace Go.Proofs.YteaaopodnbjpoaaGreat
open Go Go.Sx Go.RowKit Go.Proofs
theorem a9h (s : TStore) (d : List TDir) (r : List TResult) (ns : List ByteArray) (hs : aL s ≤ 4300000) (hd : aP d ≤ 4300000) (hr : aH r ≤ 4300000) (hns : ns.length ≤ 4300000) : FnC Tryz.prog 218 [cZ s, .o (.d (.sl (d.map aM))), .o (.d (.sl (r.map aJ))), .o (.d (.sl (ns.map bV)))] (.t [(false, [.d (.sl ((evX s d r ns).1.map aJ))]), (false, [.d (bv (evB s d))])]) := by
 have hd0 : d.length + wsum wDir d ≤ 4300000 := hd
 have hs0 : aT s.fSchema + (s.fFiles.length + wsum wFile s.fFiles) ≤ 4300000 := hs
 refine ent Tryz.func218 rfl Tryz.call218 rfl (fun C => ?_); simp only [go_sem, st0, Tryz.ntmps218]
 cases hb : lH d
 ·have e1 : evX s d r ns = ([], 0) := by simp [evX, hb]
  have e2 : evB s d = false := by simp [evB, hb]
  have q0 := @hb; refine fC (gM d hd) ?_
  refine aB (Sees.frz 1 rfl) ?_
  simp only [go_sem]
  exact aA ⟨⟨_, rfl, by simp only [go_sem, e1, e2, List.map_nil]; try simp⟩, by simp [aK]⟩
 cases hst : bR s
 ·have e1 : evX s d r ns = ([], 0) := by simp [evX, hst]
  have e2 : evB s d = false := by simp [evB, hst]
  have q0 := @hb; have q1 := @hst; refine uU (gM d hd) (bL s hs) ?_
  refine aB (Sees.frz 1 rfl) ?_
  simp only [go_sem]
  exact aA ⟨⟨_, rfl, by simp only [go_sem, e1, e2, List.map_nil]; try simp⟩, by simp [aK]⟩
 obtain ⟨hv, hleast⟩ := pX hb
 have hclo := hleast.clo
 have hvq := fun i (hi : i < d.length) => kM hv i hi
 have h5 := jG hv
 have h12 := lS hst
 have hLl := hclo.len
 obtain ⟨CC, hCC⟩ : ∃ c, s.fFiles.length + aH r = c := ⟨_, rfl⟩
 have hC2 : CC ≤ 4300012 := by omega
 have e1 : evX s d r ns = allE s.fFiles d (resL d) ns CC r (pW d (resL d)) := by simp [evX, hb, hst, hCC]
 have e2 : evB s d = true := by simp [evB, hb, hst]
 have q0 := @hb; have q1 := @hst; refine uU (gM d hd) (bL s hs) ?_
 refine b0w 1 rfl ?_
 simp only [go_sem]
 refine aN (α := Nat) (fun k => [(12, .o (.s 1)), (32, .o .u), (13, oi k)]) (fun k => [(1, .row 141 2 ((gJ ns r (d.take k)).map aJ) false)]) (fun k => k ≤ d.length) (fun k => d.length - k) 0 (fun _ => ?_) ?_ ?_ (fun k hk => ?_)
 ·simp only [go_sem]
 ·simp only [go_sem]; simp [gJ]
 ·simp
 ·simp only [go_sem]
  refine aD ?_
  refine cnd rfl (fun h => ?_) (fun h => ?_)
  ·simp only [decide_eq_true_eq, Int.ofNat_lt] at h
   have hsl := a0i ns r d k
   have hl1 : (gJ ns r (d.take k)).length + 1 ≤ 140737488355328 := by omega
   have hl2 : ((gJ ns r (d.take k)).length + 1) * 40 ≤ 140737488355328 := by omega
   have hsu := xV ns r d k h
   cases hn : hasS ns d[k].fName
   ·rw [hn] at hsu
    have qH := aI @h (aI @hn (aI @hl1 @hl2)); repeat' (with_reducible first | refine nY ?_ | (refine mX ?_; try simp only [go_sem, qH]) | refine kD ?_ | (apply rE [11,13,14] [] [0,1,2,3,4,5,6,7,8,9,10] [0,1,2,3,4,5,6,7,8,9,10] ((.c 11 [12] [0,1,2,3,4,12] (.c 13 [] [0,1,2,3,4,12] (.c 14 [] [] .n .n) .n) (.c 13 [] [0,1,2,3,4,5,6,7,8,9,10] (.c 11 [12] [0,1,2,3,4,12] (.c 14 [] [] .n .n) .n) .n))) (by simp only [go_sem]; rfl) (by simp only [go_sem]; rfl) (by simp only [go_sem]; rfl) (by decide +kernel); (focus simp only [go_sem]; done)) | exact dO | refine cB (uX ?_) ?_ | refine cK (aX ?_) ?_ | refine cO (aX ?_) ?_ | exact bZ | exact oH | exact uB | refine rD ?_ | refine cP (iB ns d[k].fName hns) ?_ | refine cP (jX r d[k].fName (by omega)) ?_ | refine aO ?_ | fail)
    refine aF (k + 1) ?_ ?_ ?_
    ·simp only [go_sem, hsu, List.map_append]; simp [aJ]
    ·omega
    ·omega
   ·rw [hn] at hsu
    have qH := aI @h (aI @hn (aI @hl1 @hl2)); repeat' (with_reducible first | refine nY ?_ | (refine mX ?_; try simp only [go_sem, qH]) | refine kD ?_ | (apply rE [11,13,14] [] [0,1,2,3,4,5,6,7,8,9,10] [0,1,2,3,4,5,6,7,8,9,10] ((.c 11 [12] [0,1,2,3,4,12] (.c 13 [] [0,1,2,3,4,12] (.c 14 [] [] .n .n) .n) (.c 13 [] [0,1,2,3,4,5,6,7,8,9,10] (.c 11 [12] [0,1,2,3,4,12] (.c 14 [] [] .n .n) .n) .n))) (by simp only [go_sem]; rfl) (by simp only [go_sem]; rfl) (by simp only [go_sem]; rfl) (by decide +kernel); (focus simp only [go_sem]; done)) | exact dO | refine cB (uX ?_) ?_ | refine cK (aX ?_) ?_ | refine cO (aX ?_) ?_ | exact bZ | exact oH | exact uB | refine rD ?_ | refine cP (iB ns d[k].fName hns) ?_ | refine cP (jX r d[k].fName (by omega)) ?_ | refine aO ?_ | fail)
    refine aF (k + 1) ?_ ?_ ?_
    ·simp only [go_sem, hsu, List.map_append]; simp [aJ]
    ·omega
    ·omega
  ·simp only [decide_eq_false_iff_not] at h
   have e : k = d.length := by omega
   subst e
   rw [List.take_length]
   generalize hL : resL d = L at *
   refine aD ?_
   refine aN (α := Nat) (fun k => [(15, oi k)]) (fun k => [(1, .row 141 2 ((allE s.fFiles d L ns CC r k).1.map aJ) false)]) (fun k => k ≤ pW d L) (fun k => pW d L - k) 0 (fun _ => ?_) ?_ ?_ (fun k hk => ?_)
   ·simp only [go_sem]
   ·simp only [go_sem]; simp [allE]
   ·simp
   ·simp only [go_sem]
    have q0 := @hL; refine fC (a4E d hd (by rw [hL]; omega)) ?_
    refine cnd rfl (fun hlev => ?_) (fun hlev => ?_)
    ·simp only [decide_eq_true_eq] at hlev
     have hkK := (tF d L k).1 hlev
     have hev := wB (fs := s.fFiles) (ns := ns) (r := r) hvq hclo k
     rw [hCC] at hev
     have htop := b0T hleast
     have hcnt := a1k s.fFiles d L ns CC r k
     have hnm : d.length * CC ≤ 5 * 4300012 := Nat.mul_le_mul h5 hC2
     have hcnt2 : k * (d.length * CC + 1) ≤ 5 * 21500061 := Nat.mul_le_mul (by omega) (by omega)
     have hround : Round s.fFiles d L ns CC k (allE s.fFiles d L ns CC r (k + 1)) ((allE s.fFiles d L ns CC r k).1, (allE s.fFiles d L ns CC r k).2, true) := Round.start hev
     generalize hT : allE s.fFiles d L ns CC r (k + 1) = T at *
     generalize allE s.fFiles d L ns CC r k = X at *
     refine aD ?_
     refine aN (α := List TResult × Nat × Bool) (fun x => [(16, ob x.2.2)]) (fun x => [(1, .row 141 2 (x.1.map aJ) false)]) (fun x => Round s.fFiles d L ns CC k T (x.1, x.2.1, x.2.2) ∧ x.2.1 ≤ X.2 + jB x.1 + (if x.2.2 then 0 else 1)) (fun x => if x.2.2 then d.length * CC + 1 - jB x.1 else 0) (X.1, X.2, true) (fun _ => ?_) ?_ ?_ (fun x hx => ?_)
     ·simp only [go_sem]
     ·simp only [go_sem]; simp
     ·exact ⟨hround, by simp⟩
     ·obtain ⟨R, c, b⟩ := x
      obtain ⟨hx, hcb⟩ := hx
      simp only at hcb
      simp only [go_sem]
      refine aD ?_
      refine cnd rfl (fun hbt => ?_) (fun hbt => ?_)
      ·subst hbt
       have hRe : Ev s.fFiles d L ns CC k R := hx.ev
       have hRt := hRe.tot
       simp only [if_true, Nat.add_zero] at hcb
       have hcI : c ≤ 1000000000 := by omega
       have hpass := hx.pass hvq hclo
       refine aD ?_
       refine aN (α := Nat) (fun i => [(16, ob (chB s.fFiles d L ns k i R)), (17, oi i)]) (fun i => [(1, .row 141 2 ((passT s.fFiles d L ns k i R).map aJ) false)]) (fun i => i ≤ d.length) (fun i => d.length - i) 0 (fun _ => ?_) ?_ ?_ (fun i hi => ?_)
       ·simp only [go_sem]
       ·simp only [go_sem]; simp [chB, passT]
       ·simp
       ·simp only [go_sem]
        refine aD ?_
        refine cnd rfl (fun h => ?_) (fun h => ?_)
        ·simp only [decide_eq_true_eq, Int.ofNat_lt] at h
         have hEv := kW hvq hclo i R (by omega) hRe
         have hcs := kG hvq hclo i R (by omega) hRe
         have hsu := qC s.fFiles d L ns k i R h
         have hchk : passT s.fFiles d L ns k (i + 1) R = passT s.fFiles d L ns k i R → chB s.fFiles d L ns k (i + 1) R = chB s.fFiles d L ns k i R := a4D
         have hchn : jB R < jB (passT s.fFiles d L ns k (i + 1) R) → chB s.fFiles d L ns k (i + 1) R = true := fun hx => by unfold chB; exact decide_eq_true hx
         have hw := hEv.w hv hC2
         obtain ⟨g1, g2⟩ := hEv.get i h
         have hPl := hEv.len
         have hbd := hEv.bd i
         have hwd := bA wDir d h
         have hwq : bT d[i].fQuery ≤ wDir d[i] := by unfold wDir; omega
         have hgrow := fun hin hik hne => hEv.grow h hin hik hne
         have hsame := fun he => yV hEv h he
         generalize passT s.fFiles d L ns k i R = P at *
         generalize hP2 : passT s.fFiles d L ns k (i + 1) R = P2 at *
         have hiP : i < P.length := by omega
         have hiL : i < L.length := by omega
         have hg := rJ L i hiL
         have hsl := a1r s.fFiles d[i].fQuery P
         by_cases hik : lv L i = k
         ·have hkI : ((lv L i : Nat) : Int) = ((k : Nat) : Int) := by omega
          cases hn : hasS ns d[i].fName
          ·rw [if_neg (fun h => by rw [hn] at h; cases h.2)] at hsu
           have q0 := @h; have q1 := @hiP; have q2 := @hiL; have q3 := @hg; have q4 := @hkI; have q5 := @hn; have q6 := @decide_true; have q7 := @decide_false; refine a2Q (iB ns d[i].fName hns) ?_
           refine aF (i + 1) ?_ ?_ ?_
           ·simp only [go_sem, hP2, hchk hsu, hsu]; simp
           ·omega
           ·omega
          ·rw [if_pos ⟨hik, hn⟩] at hsu
           by_cases he : kX s.fFiles d[i].fQuery P = fA P i
           ·have hE : eqL jA (kX s.fFiles d[i].fQuery P) (fA P i) = true := by rw [vX]; exact decide_eq_true he
            have hPP : P2 = P := by rw [hsu, hsame he]
            have qH := aI @h (aI @hiP (aI @hiL (aI @hg (aI @hkI (aI @g1 (aI @g2 (aI @hE (aI @hn (aI @decide_true @decide_false))))))))); repeat' (with_reducible first | refine nY ?_ | (refine mX ?_; try simp only [go_sem, qH]) | refine kD ?_ | refine rT [7] [98] ?_ | refine dM (aX ?_) (uX ?_) | refine fB (aX ?_) ?_ | (refine uA ?_; simp only [go_sem, qH]; (repeat' first | omega | refine And.intro ?_ ?_ | refine cP (iB ns d[i].fName hns) ?_ | (refine mX ?_; simp only [go_sem, qH] <;> fail)); done) | refine rD ?_ | refine cP (iB ns d[i].fName hns) ?_ | refine vR (nO s d[i].fQuery P hs (by omega) hw) ?_ | refine vG (nO s d[i].fQuery P hs (by omega) hw) ?_ | refine vL (nR (kX s.fFiles d[i].fQuery P) (fA P i) (by omega)) ?_ | refine aO ?_ | fail)
            refine aF (i + 1) ?_ ?_ ?_
            ·simp only [go_sem, hP2, hchk hPP, hPP]; simp
            ·omega
            ·omega
           ·have hE : eqL jA (kX s.fFiles d[i].fQuery P) (fA P i) = false := by rw [vX]; exact decide_eq_false he
            have hlt := hgrow hn hik he
            have hch2 : chB s.fFiles d L ns k (i + 1) R = true := hchn (by
             rw [hsu]
             rcases hcs with e | e
             ·rw [← e]; exact hlt
             ·omega)
            have qH := aI @h (aI @hiP (aI @hiL (aI @hg (aI @hkI (aI @g1 (aI @g2 (aI @hE (aI @hn (aI @decide_true @decide_false))))))))); repeat' (with_reducible first | refine nY ?_ | (refine mX ?_; try simp only [go_sem, qH]) | refine kD ?_ | refine rT [7] [98] ?_ | refine dM (aX ?_) (uX ?_) | refine fB (aX ?_) ?_ | (refine uA ?_; simp only [go_sem, qH]; (repeat' first | omega | refine And.intro ?_ ?_ | refine cP (iB ns d[i].fName hns) ?_ | (refine mX ?_; simp only [go_sem, qH] <;> fail)); done) | refine rD ?_ | refine cP (iB ns d[i].fName hns) ?_ | refine vR (nO s d[i].fQuery P hs (by omega) hw) ?_ | refine vG (nO s d[i].fQuery P hs (by omega) hw) ?_ | refine vL (nR (kX s.fFiles d[i].fQuery P) (fA P i) (by omega)) ?_ | refine aO ?_ | fail)
            refine aF (i + 1) ?_ ?_ ?_
            ·simp only [go_sem, hP2, hch2, hsu, xZ, ← b5r]; simp
            ·omega
            ·omega
         ·rw [if_neg (fun h => hik h.1)] at hsu
          have hkI : ¬ ((lv L i : Nat) : Int) = ((k : Nat) : Int) := by omega
          have q0 := @h; have q1 := @hiP; have q2 := @hiL; have q3 := @hg; have q4 := @hkI; have q5 := @decide_true; have q6 := @decide_false; refine a7f ?_
          refine aF (i + 1) ?_ ?_ ?_
          ·simp only [go_sem, hP2, hchk hsu, hsu]; simp
          ·omega
          ·omega
        ·simp only [decide_eq_false_iff_not] at h
         have e : i = d.length := by omega
         subst e
         have hPe := kW hvq hclo d.length R (Nat.le_refl _) hRe
         have hPt := hPe.tot
         refine aD ?_
         refine aF (passT s.fFiles d L ns k d.length R, c + 1, chB s.fFiles d L ns k d.length R) ?_ ?_ ?_
         ·simp only [go_sem]; simp
         ·refine ⟨hpass, ?_⟩
          simp only
          have hpc := kG hvq hclo d.length R (Nat.le_refl _) hRe
          cases hcb2 : chB s.fFiles d L ns k d.length R with
          | false =>
           have h9 : jB R ≤ jB (passT s.fFiles d L ns k d.length R) := by
            rcases hpc with e | e
            ·rw [e]; exact Nat.le_refl _
            ·omega
           simp only [Bool.false_eq_true, if_false]; omega
          | true =>
           have := of_decide_eq_true hcb2
           simp only [if_true]; omega
         ·simp only [if_true]
          cases hcb3 : chB s.fFiles d L ns k d.length R with
          | false => simp only [Bool.false_eq_true, if_false]; omega
          | true =>
           have := of_decide_eq_true hcb3
           simp only [if_true]; omega
      ·subst hbt
       have hTe := hx.fin rfl
       simp only at hTe
       refine aD ?_
       refine aF (k + 1) ?_ ?_ ?_
       ·simp only [go_sem, hT, hTe]; simp
       ·omega
       ·omega
    ·simp only [decide_eq_false_iff_not] at hlev
     have hkK : ¬ k < pW d L := fun h => hlev ((tF d L k).2 h)
     have e : k = pW d L := by omega
     subst e
     refine aD ?_
     refine aB (Sees.frz 1 rfl) ?_
     simp only [go_sem]
     exact aA ⟨⟨_, rfl, by simp only [go_sem, e1, e2]; try simp⟩, by simp [aK]⟩
end Go.Proofs.YteaaopodnbjpoaaGreat
end
section
set_option maxRecDepth 100000
set_option maxHeartbeats 4000000
namespace Go.Proofs.YteaaopodnbjpoaaGreat
open Go Go.Sx Go.RowKit Go.Proofs
theorem b3I (s : TStore) (d : List TDir) (hs : aL s ≤ 4300000) (hd : aP d ≤ 4300000) : FnC Tryz.prog 151 [cZ s, .o (.d (.sl (d.map aM)))] (.t [(false, [.w 141 2 ((evX s d [] (dirNs d)).1.map aJ)]), (false, [.d (iv ((evX s d [] (dirNs d)).2 : Nat))]), (false, [.d (bv (evB s d))])]) := by
 have hd0 : d.length + wsum wDir d ≤ 4300000 := hd
 have hs0 : aT s.fSchema + (s.fFiles.length + wsum wFile s.fFiles) ≤ 4300000 := hs
 refine ent Tryz.func151 rfl Tryz.call151 rfl (fun C => ?_); simp only [go_sem, st0, Tryz.ntmps151]
 have hr : aH [] ≤ 4300000 := by simp [aH, wsum]
 generalize hrr : ([] : List TResult) = r at *
 have hns : (dirNs d).length ≤ 4300000 := by rw [lN]; omega
 have hhas : ∀ i, (hi : i < d.length) → hasS (dirNs d) d[i].fName = true := b6W d
 generalize dirNs d = ns at *
 cases hb : lH d
 ·have e1 : evX s d r ns = ([], 0) := by simp [evX, hb]
  have e2 : evB s d = false := by simp [evB, hb]
  have q0 := @hb; refine fC (gM d hd) ?_
  exact aA ⟨⟨_, rfl, by simp only [go_sem, e1, e2, List.map_nil]; simp⟩, by simp [aK]⟩
 cases hst : bR s
 ·have e1 : evX s d r ns = ([], 0) := by simp [evX, hst]
  have e2 : evB s d = false := by simp [evB, hst]
  have q0 := @hb; have q1 := @hst; refine uU (gM d hd) (bL s hs) ?_
  exact aA ⟨⟨_, rfl, by simp only [go_sem, e1, e2, List.map_nil]; simp⟩, by simp [aK]⟩
 obtain ⟨hv, hleast⟩ := pX hb
 have hclo := hleast.clo
 have hvq := fun i (hi : i < d.length) => kM hv i hi
 have h5 := jG hv
 have h12 := lS hst
 have hLl := hclo.len
 obtain ⟨CC, hCC⟩ : ∃ c, s.fFiles.length + aH r = c := ⟨_, rfl⟩
 have hC2 : CC ≤ 4300012 := by omega
 have e1 : evX s d r ns = allE s.fFiles d (resL d) ns CC r (pW d (resL d)) := by simp [evX, hb, hst, hCC]
 have e2 : evB s d = true := by simp [evB, hb, hst]
 have q0 := @hb; have q1 := @hst; refine uU (gM d hd) (bL s hs) ?_
 refine aN (α := Nat) (fun k => [(9, .o (.s 1)), (29, .o .u), (10, oi k)]) (fun k => [(1, .row 141 2 ((gJ ns r (d.take k)).map aJ) true)]) (fun k => k ≤ d.length) (fun k => d.length - k) 0 (fun _ => ?_) ?_ ?_ (fun k hk => ?_)
 ·simp only [go_sem]
 ·simp only [go_sem]; simp [gJ]
 ·simp
 ·simp only [go_sem]
  refine aD ?_
  refine cnd rfl (fun h => ?_) (fun h => ?_)
  ·simp only [decide_eq_true_eq, Int.ofNat_lt] at h
   have hsl := a0i ns r d k
   have hl1 : (gJ ns r (d.take k)).length + 1 ≤ 140737488355328 := by omega
   have hl2 : ((gJ ns r (d.take k)).length + 1) * 40 ≤ 140737488355328 := by omega
   have hsu := xV ns r d k h
   rw [hhas k h] at hsu
   have q0 := @h; have q1 := @hl1; have q2 := @hl2; refine mO ?_
   refine aF (k + 1) ?_ ?_ ?_
   ·simp only [go_sem, hsu, List.map_append]; simp [aJ]
   ·omega
   ·omega
  ·simp only [decide_eq_false_iff_not] at h
   have e : k = d.length := by omega
   subst e
   rw [List.take_length]
   generalize hL : resL d = L at *
   refine aD ?_
   refine aN (α := Nat) (fun k => [(11, oi ((allE s.fFiles d L ns CC r k).2 : Nat)), (12, oi k)]) (fun k => [(1, .row 141 2 ((allE s.fFiles d L ns CC r k).1.map aJ) true)]) (fun k => k ≤ pW d L) (fun k => pW d L - k) 0 (fun _ => ?_) ?_ ?_ (fun k hk => ?_)
   ·simp only [go_sem]
   ·simp only [go_sem]; simp [allE]
   ·simp
   ·simp only [go_sem]
    have q0 := @hL; refine fC (a4E d hd (by rw [hL]; omega)) ?_
    refine cnd rfl (fun hlev => ?_) (fun hlev => ?_)
    ·simp only [decide_eq_true_eq] at hlev
     have hkK := (tF d L k).1 hlev
     have hev := wB (fs := s.fFiles) (ns := ns) (r := r) hvq hclo k
     rw [hCC] at hev
     have htop := b0T hleast
     have hcnt := a1k s.fFiles d L ns CC r k
     have hnm : d.length * CC ≤ 5 * 4300012 := Nat.mul_le_mul h5 hC2
     have hcnt2 : k * (d.length * CC + 1) ≤ 5 * 21500061 := Nat.mul_le_mul (by omega) (by omega)
     have hround : Round s.fFiles d L ns CC k (allE s.fFiles d L ns CC r (k + 1)) ((allE s.fFiles d L ns CC r k).1, (allE s.fFiles d L ns CC r k).2, true) := Round.start hev
     generalize hT : allE s.fFiles d L ns CC r (k + 1) = T at *
     generalize allE s.fFiles d L ns CC r k = X at *
     refine aD ?_
     refine aN (α := List TResult × Nat × Bool) (fun x => [(11, oi (x.2.1 : Nat)), (13, ob x.2.2)]) (fun x => [(1, .row 141 2 (x.1.map aJ) true)]) (fun x => Round s.fFiles d L ns CC k T (x.1, x.2.1, x.2.2) ∧ x.2.1 ≤ X.2 + jB x.1 + (if x.2.2 then 0 else 1)) (fun x => if x.2.2 then d.length * CC + 1 - jB x.1 else 0) (X.1, X.2, true) (fun _ => ?_) ?_ ?_ (fun x hx => ?_)
     ·simp only [go_sem]
     ·simp only [go_sem]; simp
     ·exact ⟨hround, by simp⟩
     ·obtain ⟨R, c, b⟩ := x
      obtain ⟨hx, hcb⟩ := hx
      simp only at hcb
      simp only [go_sem]
      refine aD ?_
      refine cnd rfl (fun hbt => ?_) (fun hbt => ?_)
      ·subst hbt
       have hRe : Ev s.fFiles d L ns CC k R := hx.ev
       have hRt := hRe.tot
       simp only [if_true, Nat.add_zero] at hcb
       have hcI : c ≤ 1000000000 := by omega
       have hpass := hx.pass hvq hclo
       refine aD ?_
       refine aN (α := Nat) (fun i => [(13, ob (chB s.fFiles d L ns k i R)), (14, oi i)]) (fun i => [(1, .row 141 2 ((passT s.fFiles d L ns k i R).map aJ) true)]) (fun i => i ≤ d.length) (fun i => d.length - i) 0 (fun _ => ?_) ?_ ?_ (fun i hi => ?_)
       ·simp only [go_sem]
       ·simp only [go_sem]; simp [chB, passT]
       ·simp
       ·simp only [go_sem]
        refine aD ?_
        refine cnd rfl (fun h => ?_) (fun h => ?_)
        ·simp only [decide_eq_true_eq, Int.ofNat_lt] at h
         have hEv := kW hvq hclo i R (by omega) hRe
         have hcs := kG hvq hclo i R (by omega) hRe
         have hsu := qC s.fFiles d L ns k i R h
         have hchk : passT s.fFiles d L ns k (i + 1) R = passT s.fFiles d L ns k i R → chB s.fFiles d L ns k (i + 1) R = chB s.fFiles d L ns k i R := a4D
         have hchn : jB R < jB (passT s.fFiles d L ns k (i + 1) R) → chB s.fFiles d L ns k (i + 1) R = true := fun hx => by unfold chB; exact decide_eq_true hx
         have hw := hEv.w hv hC2
         obtain ⟨g1, g2⟩ := hEv.get i h
         have hPl := hEv.len
         have hbd := hEv.bd i
         have hwd := bA wDir d h
         have hwq : bT d[i].fQuery ≤ wDir d[i] := by unfold wDir; omega
         have hgrow := fun hin hik hne => hEv.grow h hin hik hne
         have hsame := fun he => yV hEv h he
         generalize passT s.fFiles d L ns k i R = P at *
         generalize hP2 : passT s.fFiles d L ns k (i + 1) R = P2 at *
         have hiP : i < P.length := by omega
         have hiL : i < L.length := by omega
         have hg := rJ L i hiL
         have hsl := a1r s.fFiles d[i].fQuery P
         by_cases hik : lv L i = k
         ·have hkI : ((lv L i : Nat) : Int) = ((k : Nat) : Int) := by omega
          have hn := hhas i h
          ·rw [if_pos ⟨hik, hn⟩] at hsu
           by_cases he : kX s.fFiles d[i].fQuery P = fA P i
           ·have hE : eqL jA (kX s.fFiles d[i].fQuery P) (fA P i) = true := by rw [vX]; exact decide_eq_true he
            have hPP : P2 = P := by rw [hsu, hsame he]
            have qH := aI @h (aI @hiP (aI @hiL (aI @hg (aI @hkI (aI @g1 (aI @g2 (aI @hE (aI @hn (aI @decide_true @decide_false))))))))); repeat' (with_reducible first | refine nY ?_ | (refine mX ?_; try simp only [go_sem, qH]) | refine kD ?_ | refine rT [7] [74] ?_ | refine dM (aX ?_) (uX ?_) | refine fB (aX ?_) ?_ | (refine uA ?_; simp only [go_sem, qH]; (repeat' first | omega | refine And.intro ?_ ?_ | refine cP (eZ ns d[i].fName hns) ?_ | (refine mX ?_; simp only [go_sem, qH] <;> fail)); done) | refine rD ?_ | refine cP (eZ ns d[i].fName hns) ?_ | refine vR (nO s d[i].fQuery P hs (by omega) hw) ?_ | refine vG (nO s d[i].fQuery P hs (by omega) hw) ?_ | refine vL (nR (kX s.fFiles d[i].fQuery P) (fA P i) (by omega)) ?_ | refine aO ?_ | fail)
            refine aF (i + 1) ?_ ?_ ?_
            ·simp only [go_sem, hP2, hchk hPP, hPP]; simp
            ·omega
            ·omega
           ·have hE : eqL jA (kX s.fFiles d[i].fQuery P) (fA P i) = false := by rw [vX]; exact decide_eq_false he
            have hlt := hgrow hn hik he
            have hch2 : chB s.fFiles d L ns k (i + 1) R = true := hchn (by
             rw [hsu]
             rcases hcs with e | e
             ·rw [← e]; exact hlt
             ·omega)
            have qH := aI @h (aI @hiP (aI @hiL (aI @hg (aI @hkI (aI @g1 (aI @g2 (aI @hE (aI @hn (aI @decide_true @decide_false))))))))); repeat' (with_reducible first | refine nY ?_ | (refine mX ?_; try simp only [go_sem, qH]) | refine kD ?_ | refine rT [7] [74] ?_ | refine dM (aX ?_) (uX ?_) | refine fB (aX ?_) ?_ | (refine uA ?_; simp only [go_sem, qH]; (repeat' first | omega | refine And.intro ?_ ?_ | refine cP (eZ ns d[i].fName hns) ?_ | (refine mX ?_; simp only [go_sem, qH] <;> fail)); done) | refine rD ?_ | refine cP (eZ ns d[i].fName hns) ?_ | refine vR (nO s d[i].fQuery P hs (by omega) hw) ?_ | refine vG (nO s d[i].fQuery P hs (by omega) hw) ?_ | refine vL (nR (kX s.fFiles d[i].fQuery P) (fA P i) (by omega)) ?_ | refine aO ?_ | fail)
            refine aF (i + 1) ?_ ?_ ?_
            ·simp only [go_sem, hP2, hch2, hsu, xZ, ← b5r]; simp
            ·omega
            ·omega
         ·rw [if_neg (fun h => hik h.1)] at hsu
          have hkI : ¬ ((lv L i : Nat) : Int) = ((k : Nat) : Int) := by omega
          have q0 := @h; have q1 := @hiP; have q2 := @hiL; have q3 := @hg; have q4 := @hkI; have q5 := @decide_true; have q6 := @decide_false; refine a7f ?_
          refine aF (i + 1) ?_ ?_ ?_
          ·simp only [go_sem, hP2, hchk hsu, hsu]; simp
          ·omega
          ·omega
        ·simp only [decide_eq_false_iff_not] at h
         have e : i = d.length := by omega
         subst e
         have hPe := kW hvq hclo d.length R (Nat.le_refl _) hRe
         have hPt := hPe.tot
         refine aD ?_
         refine aF (passT s.fFiles d L ns k d.length R, c + 1, chB s.fFiles d L ns k d.length R) ?_ ?_ ?_
         ·simp only [go_sem]; simp
         ·refine ⟨hpass, ?_⟩
          simp only
          have hpc := kG hvq hclo d.length R (Nat.le_refl _) hRe
          cases hcb2 : chB s.fFiles d L ns k d.length R with
          | false =>
           have h9 : jB R ≤ jB (passT s.fFiles d L ns k d.length R) := by
            rcases hpc with e | e
            ·rw [e]; exact Nat.le_refl _
            ·omega
           simp only [Bool.false_eq_true, if_false]; omega
          | true =>
           have := of_decide_eq_true hcb2
           simp only [if_true]; omega
         ·simp only [if_true]
          cases hcb3 : chB s.fFiles d L ns k d.length R with
          | false => simp only [Bool.false_eq_true, if_false]; omega
          | true =>
           have := of_decide_eq_true hcb3
           simp only [if_true]; omega
      ·subst hbt
       have hTe := hx.fin rfl
       simp only at hTe
       refine aD ?_
       refine aF (k + 1) ?_ ?_ ?_
       ·simp only [go_sem, hT, hTe]; simp
       ·omega
       ·omega
    ·simp only [decide_eq_false_iff_not] at hlev
     have hkK : ¬ k < pW d L := fun h => hlev ((tF d L k).2 h)
     have e : k = pW d L := by omega
     subst e
     refine aD ?_
     exact aA ⟨⟨_, rfl, by simp only [go_sem, e1, e2]; try simp⟩, by simp [aK]⟩
end Go.Proofs.YteaaopodnbjpoaaGreat
end
section
set_option maxRecDepth 100000
set_option maxHeartbeats 4000000
namespace Go.Proofs.YteaaopodnbjpoaaGreat
open Go Go.Sx Go.RowKit Go.Proofs
theorem a4R (s : TStore) (d : List TDir) (hs : aL s ≤ 4300000) (hd : aP d ≤ 4300000) : FnC Tryz.prog 166 [cZ s, .o (.d (.sl (d.map aM))), .o (.d (.sl [])), .o (.d (.sl ((dirNs d).map bV)))] (.t [(false, [.w 141 2 ((evX s d [] (dirNs d)).1.map aJ)]), (false, [.d (iv ((evX s d [] (dirNs d)).2 : Nat))]), (false, [.d (bv (evB s d))])]) :=
 a6r s d [] (dirNs d) hs hd (by simp [aH, wsum]) (by rw [lN]; unfold aP at hd; omega)
theorem a9z (s : TStore) (d : List TDir) (hs : aL s ≤ 4300000) (hd : aP d ≤ 4300000) : FnC Tryz.prog 97 [cZ s, .o (.d (.sl (d.map aM)))] (.t [(false, [.w 141 2 ((evX s d [] (dirNs d)).1.map aJ)]), (false, [.d (bv (evB s d))])]) := by
 have hl : d.length ≤ 4300000 := by unfold aP at hd; omega
 refine ent Tryz.func97 rfl Tryz.call97 rfl (fun C => ?_); simp only [go_sem, st0, Tryz.ntmps97]
 have qH := trivial; repeat' (with_reducible first | refine nY ?_ | (refine mX ?_; try simp only [go_sem]) | refine kD ?_ | refine rT [3, 4] [13, 14] ?_ | refine dM (aX ?_) (uX ?_) | refine fB (aX ?_) ?_ | (refine uA ?_; simp only [go_sem]; (repeat' first | omega | refine And.intro ?_ ?_ | refine cP (a4R s d hs hd) ?_ | refine cP (qP d hl) ?_ | (refine mX ?_; simp only [go_sem] <;> fail)); done) | refine rD ?_ | refine cP (a4R s d hs hd) ?_ | refine cP (qP d hl) ?_ | refine aO ?_ | fail)
 exact aA ⟨⟨_, rfl, by simp only [go_sem]⟩, by simp [aK]⟩
theorem a9A (s : TStore) (d : List TDir) (hs : aL s ≤ 4300000) (hd : aP d ≤ 4300000) : FnC Tryz.prog 80 [cZ s, .o (.d (.sl (d.map aM)))] (.t [(false, [.w 141 2 ((evX s d [] (dirNs d)).1.map aJ)]), (false, [.d (bv (evB s d))])]) := by
 refine ent Tryz.func80 rfl Tryz.call80 rfl (fun C => ?_); simp only [go_sem, st0, Tryz.ntmps80]
 refine gP (b3I s d hs hd) ?_
 exact aA ⟨⟨_, rfl, by simp only [go_sem]⟩, by simp [aK]⟩
theorem b5H (s : TStore) (d : List TDir) : aH (evX s d [] (dirNs d)).1 ≤ 95 := by
 unfold evX
 split
 ·rename_i hb
  rw [Bool.and_eq_true] at hb
  obtain ⟨hv, hleast⟩ := pX hb.1
  have h5 := jG hv
  have h12 := lS hb.2
  have hev := wB (fs := s.fFiles) (ns := dirNs d) (r := []) (fun i (hi : i < d.length) => kM hv i hi) hleast.clo (pW d (resL d))
  have h0 : aH [] = 0 := by simp [aH, wsum]
  revert hev
  generalize (allE s.fFiles d (resL d) (dirNs d) (s.fFiles.length + aH []) [] (pW d (resL d))).1 = X
  rw [h0]
  intro hev
  have hlen := hev.len
  have hb2 := vW wResult 18 X fun i hi => by
   obtain ⟨e1, e2⟩ := hev.get i (by omega)
   have h1 := xU hv i (by omega)
   have h2 := hev.bd i
   unfold wResult
   rw [e1, e2]
   omega
  unfold aH
  have := Nat.mul_le_mul_right 18 h5
  rw [hlen] at hb2 ⊢
  omega
 ·simp [aH, wsum]
theorem b7E (s : TStore) (d : List TDir) : aH (evX s d [] (dirNs d)).1 ≤ 4300000 := Nat.le_trans (b5H s d) (by decide)
noncomputable def kH (c : TCatalog) : Bool := evB c.fStore c.fDirs && eqL dL (evX c.fStore c.fDirs [] (dirNs c.fDirs)).1 c.fResults
theorem bI (c : TCatalog) (h : wCatalog c ≤ 4300000) : FnC Tryz.prog 47 [bK c] (ob (kH c)) := by
 unfold wCatalog at h
 refine ent Tryz.func47 rfl Tryz.call47 rfl (fun C => ?_); simp only [go_sem, st0, Tryz.ntmps47]
 cases hb : evB c.fStore c.fDirs
 all_goals
  have q0 := @hb; refine a1H (a9z c.fStore c.fDirs (by omega) (by omega)) (zG (evX c.fStore c.fDirs [] (dirNs c.fDirs)).1 c.fResults (b7E _ _)) ?_
  exact aA ⟨⟨_, rfl, by simp only [go_sem, kH, hb, Bool.true_and, Bool.false_and]⟩, trivial⟩
theorem bE (c : TCatalog) (h : wCatalog c ≤ 4300000) : FnC Tryz.prog 40 [bK c] (ob (kH c)) := by
 unfold wCatalog at h
 refine ent Tryz.func40 rfl Tryz.call40 rfl (fun C => ?_); simp only [go_sem, st0, Tryz.ntmps40]
 cases hb : evB c.fStore c.fDirs
 all_goals
  have q0 := @hb; refine a1H (a9A c.fStore c.fDirs (by omega) (by omega)) (zD (evX c.fStore c.fDirs [] (dirNs c.fDirs)).1 c.fResults (b7E _ _)) ?_
  exact aA ⟨⟨_, rfl, by simp only [go_sem, kH, hb, Bool.true_and, Bool.false_and]⟩, trivial⟩
end Go.Proofs.YteaaopodnbjpoaaGreat
end
section
set_option maxRecDepth 100000
set_option maxHeartbeats 4000000
namespace Go.Proofs.YteaaopodnbjpoaaGreat
open Go Go.Sx Go.RowKit Go.Proofs
theorem b6K (a b : List TResult) (h : eqL dL a b = true) : a = b := by
 induction a generalizing b with
 | nil => cases b with
  | nil => rfl
  | cons y b => simp [eqL] at h
 | cons x a ih =>
  cases b with
  | nil => simp [eqL] at h
  | cons y b =>
   simp only [eqL, dL, vX, Bool.and_eq_true, decide_eq_true_eq] at h
   obtain ⟨⟨e1, e2⟩, e3⟩ := h
   rw [ih b e3]
   cases x; cases y; simp only at e1 e2; subst e1; subst e2; rfl
theorem b4S {c : TCatalog} (h : kH c = true) : aH c.fResults ≤ 95 := by
 unfold kH at h
 rw [Bool.and_eq_true] at h
 rw [← b6K _ _ h.2]
 exact b5H _ _
theorem b4T {c : TCatalog} (h : kH c = true) : lH c.fDirs = true := by
 unfold kH evB at h
 simp only [Bool.and_eq_true] at h
 exact h.1.1
theorem b7z {c : TCatalog} (h : kH c = true) : bR c.fStore = true := by
 unfold kH evB at h
 simp only [Bool.and_eq_true] at h
 exact h.1.2
theorem b0z (s : TStore) (d : List TDir) (r : List TResult) (ns : List ByteArray) (hr : aH r ≤ 95) : aH (evX s d r ns).1 ≤ 600 := by
 unfold evX
 split
 ·rename_i hb
  rw [Bool.and_eq_true] at hb
  obtain ⟨hv, hleast⟩ := pX hb.1
  have h12 := lS hb.2
  have hev := wB (fs := s.fFiles) (ns := ns) (r := r) (fun i (hi : i < d.length) => kM hv i hi) hleast.clo (pW d (resL d))
  revert hev
  generalize (allE s.fFiles d (resL d) ns (s.fFiles.length + aH r) r (pW d (resL d))).1 = R
  intro hev
  have hlen := hev.len
  have h5 := jG hv
  have hb3 := vW wResult 113 R fun i hi => by
   obtain ⟨e1, e2⟩ := hev.get i (by omega)
   have h1 := xU hv i (by omega)
   have h2 := hev.bd i
   unfold wResult
   rw [e1, e2]
   omega
  unfold aH
  have : R.length * 113 ≤ 5 * 113 := Nat.mul_le_mul_right _ (by omega)
  omega
 ·simp [aH, wsum]
theorem b6L (a b : List TResult) (ha : aH a ≤ 95) (hb : aH b ≤ 600) : lG (gF a b) ≤ 60000 := by
 have h := b1Z a b
 have h1 : b.length ≤ 600 := by unfold aH at hb; omega
 have h2 : b.length * aH a ≤ 600 * 95 := Nat.mul_le_mul h1 ha
 omega
theorem a0O (s : TStore) (d : List TDir) (r : List TResult) (ns : List ByteArray) (hs : aL s ≤ 4300000) (hd : aP d ≤ 4300000) (hr : aH r ≤ 4300000) (hns : ns.length ≤ 4300000) : FnC Tryz.prog 187 [cZ s, .o (.d (.sl (d.map aM))), .o (.d (.sl (r.map aJ))), .o (.d (.sl (ns.map bV)))] (.t [(false, [.w 141 2 ((evX s d r ns).1.map aJ)]), (false, [.d (bv (evB s d))])]) := by
 refine ent Tryz.func187 rfl Tryz.call187 rfl (fun C => ?_); simp only [go_sem, st0, Tryz.ntmps187]
 refine gP (a6r s d r ns hs hd hr hns) ?_
 exact aA ⟨⟨_, rfl, by simp only [go_sem]⟩, by simp [aK]⟩
theorem b4U (s : TStore) (d : List TDir) (r : List TResult) (ns : List ByteArray) (hr : aH r ≤ 4300000) : aH (evX s d r ns).1 ≤ 67108864 := by
 unfold evX
 split
 ·rename_i hb
  rw [Bool.and_eq_true] at hb
  obtain ⟨hv, hleast⟩ := pX hb.1
  have h12 := lS hb.2
  have hev := wB (fs := s.fFiles) (ns := ns) (r := r) (fun i (hi : i < d.length) => kM hv i hi) hleast.clo (pW d (resL d))
  exact hev.w hv (by omega)
 ·simp [aH, wsum]
noncomputable def chC (c : TCatalog) (s : TStore) (d : List TDir) (ns : List ByteArray) : TCatalog := if evB s d then ⟨s, d, (evX s d c.fResults ns).1⟩ else c
noncomputable def chD (c : TCatalog) (s : TStore) (d : List TDir) (ns : List ByteArray) : List TDiff := if evB s d then gF c.fResults (evX s d c.fResults ns).1 else []
theorem b1T (c : TCatalog) (s : TStore) (d : List TDir) (ns : List ByteArray) (hc : wCatalog c ≤ 4300000) (hs : aL s ≤ 4300000) (hd : aP d ≤ 4300000) (hns : ns.length ≤ 4300000) : FnC Tryz.prog 110 [bK c, cZ s, .o (.d (.sl (d.map aM))), .o (.d (.sl (ns.map bV)))] (.t [(true, (jV (chC c s d ns)).cells), (false, [.w 100 3 ((chD c s d ns).map dH)]), (false, [.d (bv (evB s d))])]) := by
 have hr : aH c.fResults ≤ 4300000 := by unfold wCatalog at hc; omega
 refine ent Tryz.func110 rfl Tryz.call110 rfl (fun C => ?_); simp only [go_sem, st0, Tryz.ntmps110]
 cases hb : evB s d
 ·have e1 : chC c s d ns = c := by simp [chC, hb]
  have e2 : chD c s d ns = [] := by simp [chD, hb]
  have q0 := @hb; refine a1H (a0O s d c.fResults ns hs hd hr hns) (dP c hc) ?_
  exact aA ⟨⟨_, rfl, by simp only [go_sem, e1, e2, List.map_nil]; try simp⟩, by simp [aK]⟩
 ·have e1 : chC c s d ns = ⟨s, d, (evX s d c.fResults ns).1⟩ := by simp [chC, hb]
  have e2 : chD c s d ns = gF c.fResults (evX s d c.fResults ns).1 := by simp [chD, hb]
  have hw := b4U s d c.fResults ns hr
  have qH := @hb; repeat' (with_reducible first | refine nY ?_ | (refine mX ?_; try simp only [go_sem, qH]) | refine kD ?_ | (apply rE [1,3,9,10] [] [0,2,4,6,7,8] [0,2,4,6,7,8] ((.c 1 [] [2,4,6,7,8] (.c 3 [5] [4,5,6,7,8] (.c 9 [] [4,5] (.c 10 [11,12] [11,12] .n .n) .n) .n) .n)) (by simp only [go_sem]; rfl) (by simp only [go_sem]; rfl) (by simp only [go_sem]; rfl) (by decide +kernel); (focus simp only [go_sem]; done)) | exact dO | refine cB (uX ?_) ?_ | refine cK (aX ?_) ?_ | refine cO (aX ?_) ?_ | exact bZ | exact oH | exact uB | refine rD ?_ | refine cP (a0O s d c.fResults ns hs hd hr hns) ?_ | refine cP (fP s hs) ?_ | refine cP (lQ d hd) ?_ | refine vR (uW c.fResults (evX s d c.fResults ns).1 hr hw) ?_ | refine vG (uW c.fResults (evX s d c.fResults ns).1 hr hw) ?_ | refine aO ?_ | fail)
  exact aA ⟨⟨_, rfl, by simp only [go_sem, e1, e2]; try simp⟩, by simp [aK]⟩
theorem a8M (c : TCatalog) (s : TStore) (d : List TDir) (ns : List ByteArray) (hc : wCatalog c ≤ 4300000) (hs : aL s ≤ 4300000) (hd : aP d ≤ 4300000) (hns : ns.length ≤ 4300000) : FnC Tryz.prog 154 [bK c, cZ s, .o (.d (.sl (d.map aM))), .o (.d (.sl (ns.map bV)))] (.t [(true, (bK ⟨s, d, (evX s d c.fResults ns).1⟩).cells), (false, [.w 100 3 ((gF c.fResults (evX s d c.fResults ns).1).map dH)])]) := by
 have hr : aH c.fResults ≤ 4300000 := by unfold wCatalog at hc; omega
 have hw := b4U s d c.fResults ns hr
 refine ent Tryz.func154 rfl Tryz.call154 rfl (fun C => ?_); simp only [go_sem, st0, Tryz.ntmps154]
 have qH := trivial; repeat' (with_reducible first | refine nY ?_ | (refine mX ?_; try simp only [go_sem]) | refine kD ?_ | (apply rE [7,8] [] [0,1,2,3,4,5,6] [0,1,2,3,4,5,6] ((.c 7 [] [0,1,2,3] (.c 8 [9] [9] .n .n) .n)) (by simp only [go_sem]; rfl) (by simp only [go_sem]; rfl) (by simp only [go_sem]; rfl) (by decide +kernel); (focus simp only [go_sem]; done)) | exact dO | refine cB (uX ?_) ?_ | refine cK (aX ?_) ?_ | refine cO (aX ?_) ?_ | exact bZ | exact oH | (refine uA ?_; simp only [go_sem]; (repeat' first | omega | refine And.intro ?_ ?_); done) | refine rD ?_ | refine cP (a9h s d c.fResults ns hs hd hr hns) ?_ | refine cP (a0Q c.fResults (evX s d c.fResults ns).1 hr hw) ?_ | refine aO ?_ | fail)
 exact aA ⟨⟨_, rfl, by simp only [go_sem]⟩, by simp [aK]⟩
theorem bG (c : TCatalog) (h : wCatalog c ≤ 4300000) : FnC Tryz.prog 39 [bK c] (bK c) := (b5q c h).pu (by simp only [go_sem, and_self])
theorem mG (c : TCatalog) (s : TStore) (d : List TDir) (ns : List ByteArray) (hc : wCatalog c ≤ 4300000) (hs : aL s ≤ 4300000) (hd : aP d ≤ 4300000) (hns : ns.length ≤ 4300000) : FnC Tryz.prog 154 [bK c, cZ s, .o (.d (.sl (d.map aM))), .o (.d (.sl (ns.map bV)))] (.t [(true, (bK ⟨s, d, (evX s d c.fResults ns).1⟩).cells), (false, [.d (.sl ((gF c.fResults (evX s d c.fResults ns).1).map dH))])]) := (a8M c s d ns hc hs hd hns).pu (by simp only [go_sem, and_self])
theorem a0P (l : List TDir) (hl : l.length ≤ 4300000) : FnC Tryz.prog 167 [.o (.d (.sl (l.map aM)))] (.o (.d (.sl ((dirNs l).map bV)))) := (qP l hl).pu (by simp only [go_sem, and_self])
theorem sQ (l : List TDir) (hl : l.length ≤ 4300000) : FnC Tryz.prog 155 [.o (.d (.sl (l.map aM)))] (.o (.d (.sl ((dirNs l).map bV)))) := (wN l hl).pu (by simp only [go_sem, and_self])
noncomputable def goC (b : Bool) (c : TCatalog) (s : TStore) (d : List TDir) (ns : List ByteArray) : TCatalog := if b then ⟨s, d, (evX s d c.fResults ns).1⟩ else c
noncomputable def goD (b : Bool) (c : TCatalog) (s : TStore) (d : List TDir) (ns : List ByteArray) : List TDiff := if b then gF c.fResults (evX s d c.fResults ns).1 else []
theorem iT (c : TCatalog) (s : TStore) (d : List TDir) (ns : List ByteArray) : goC false c s d ns = c := rfl
theorem iU (c : TCatalog) (s : TStore) (d : List TDir) (ns : List ByteArray) : goD false c s d ns = [] := rfl
theorem a3g (c : TCatalog) (s : TStore) (d : List TDir) (ns : List ByteArray) : goC true c s d ns = ⟨s, d, (evX s d c.fResults ns).1⟩ := rfl
theorem a3h (c : TCatalog) (s : TStore) (d : List TDir) (ns : List ByteArray) : goD true c s d ns = gF c.fResults (evX s d c.fResults ns).1 := rfl
theorem a3i (c : TCatalog) (s : TStore) (d : List TDir) (ns : List ByteArray) (hev : evB s d = true) (hc : wCatalog c ≤ 4300000) (hs : aL s ≤ 4300000) (hd : aP d ≤ 4300000) (hns : ns.length ≤ 4300000) : FnC Tryz.prog 110 [bK c, cZ s, .o (.d (.sl (d.map aM))), .o (.d (.sl (ns.map bV)))] (.t [(true, (jV (goC true c s d ns)).cells), (false, [.w 100 3 ((goD true c s d ns).map dH)]), (false, [.d (bv true)])]) := by
 have h := b1T c s d ns hc hs hd hns
 unfold chC chD at h
 rw [hev] at h
 exact h
end Go.Proofs.YteaaopodnbjpoaaGreat
end
