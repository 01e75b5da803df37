/- Joined texts. -/
import Derived.Test.YtddimbdeggomaaaGreatZ07
import Derived.Test.YtddimbdeggomaaaGreatZ14
import Derived.Test.YtddimbdeggomaaaGreatZ11
import Derived.Test.YtddimbdeggomaaaGreatZ08
set_option linter.all false
section
set_option maxRecDepth 100000
namespace Go.Proofs.YtddimbdeggomaaaGreat
open Go Go.Sx Go.RowKit Go.Proofs
def eqL {α : Type} (p : α → α → Bool) : List α → List α → Bool
 | [], [] => true
 | x :: xs, y :: ys => p x y && eqL p xs ys
 | _, _ => false
theorem mF {α : Type} (p : α → α → Bool) : ∀ {a b : List α}, a.length ≠ b.length → eqL p a b = false
 | [], [], h => by simp at h
 | x :: xs, y :: ys, h => by
  have := mF p (a := xs) (b := ys) (by simpa using h)
  simp [eqL, this]
 | [], _ :: _, _ => rfl
 | _ :: _, [], _ => rfl
@[go_sem] def du (a b : Int) : Bool := decide (a = b)
@[go_sem] def BT (a b : TField) : Bool := decide (a.fName = b.fName) && decide (a.fKind = b.fKind)
@[go_sem] def Dl (a b : TAttr) : Bool := decide (a.fName = b.fName) && (decide (a.fValue.fKind = b.fValue.fKind) && (decide (a.fValue.fInt = b.fValue.fInt) && decide (a.fValue.fStr = b.fValue.fStr)))
@[go_sem] def Dm (a b : TNode) : Bool := decide (a.fOp = b.fOp) && (decide (a.fLeft = b.fLeft) && (decide (a.fRight = b.fRight) && (decide (a.fName = b.fName) && (decide (a.fValue.fKind = b.fValue.fKind) && (decide (a.fValue.fInt = b.fValue.fInt) && decide (a.fValue.fStr = b.fValue.fStr))))))
def Dn (a b : TFile) : Bool := decide (a.fID = b.fID) && (decide (a.fOwner = b.fOwner) && ((a.fShared == b.fShared) && (decide (a.fLink = b.fLink) && eqL Dl a.fAttrs b.fAttrs)))
def BU (a b : TDir) : Bool := decide (a.fName = b.fName) && eqL Dm a.fQuery b.fQuery
def bu (a b : TResult) : Bool := decide (a.fName = b.fName) && eqL du a.fIDs b.fIDs
def vZ (a b : TStore) : Bool := eqL BT a.fSchema b.fSchema && (eqL Dn a.fFiles b.fFiles && decide (a.fNextID = b.fNextID))
def DC (a b : TSnapshot) : Bool := vZ a.fStore b.fStore && eqL BU a.fDirs b.fDirs
def En (a b : TCatalog) : Bool := vZ a.fStore b.fStore && (eqL BU a.fDirs b.fDirs && eqL bu a.fResults b.fResults)
theorem gc (a b : List Int) (ha : a.length ≤ 4300000) : FnC Tryz.prog 85 [.o (.d (.sl (a.map bY))), .o (.d (.sl (b.map bY)))] (ob (eqL du a b)) := by
 have hal : a.length ≤ 4300000 := by omega
 refine ent Tryz.func85 rfl Tryz.call85 rfl (fun C => ?_); simp only [go_sem, st0, Tryz.ntmps85]
 refine af ?_
 refine cnd rfl (fun h0 => ?_) (fun h0 => ?_)
 ·have e : eqL du a b = false := mF _ (by simp only [Bool.not_eq_true', decide_eq_false_iff_not] at h0; omega)
  refine af ?_
  exact aa ⟨⟨_, rfl, by simp only [go_sem, e]⟩, trivial⟩
 have h0 : a.length = b.length := by simpa [Int.ofNat_inj] using h0
 refine af ?_
 refine ak (α := Nat) (fun k => [(5, oi k)]) (fun _ => []) (fun k => k ≤ a.length ∧ eqL du a b = eqL du (a.drop k) (b.drop k)) (fun k => a.length - k) 0 (fun _ => ?_) ?_ ?_ (fun k hk => ?_)
 ·simp only [go_sem]
 ·simp only [go_sem]; simp
 ·simp
 ·obtain ⟨hk, hq⟩ := hk
  simp only [go_sem]
  refine af ?_
  refine cnd rfl (fun h => ?_) (fun h => ?_)
  ·simp only [decide_eq_true_eq, Int.ofNat_lt] at h
   have hb : k < b.length := by omega
   rw [List.drop_eq_getElem_cons h, List.drop_eq_getElem_cons hb, eqL] at hq
   have q0 := @h; have q1 := @hb; refine fg ?_
   refine cnd (b := !(du a[k] b[k])) (by rfl) (fun h2 => ?_) (fun h2 => ?_)
   ·simp only [Bool.not_eq_true'] at h2
    rw [h2, Bool.false_and] at hq
    refine af ?_
    exact aa ⟨⟨_, rfl, by simp only [go_sem, hq]⟩, trivial⟩
   ·simp only [Bool.not_eq_false'] at h2
    rw [h2, Bool.true_and] at hq
    refine af ?_
    refine ae (k + 1) ?_ ?_ ?_
    ·simp only [go_sem]; simp
    ·exact ⟨h, hq⟩
    ·omega
  ·simp only [decide_eq_false_iff_not] at h
   have e : k = a.length := by omega
   subst e
   rw [List.drop_length, List.drop_of_length_le (by omega), eqL] at hq
   refine af ?_
   exact aa ⟨⟨_, rfl, by simp only [go_sem, hq]⟩, trivial⟩
theorem ia (a b : List Int) (ha : a.length ≤ 4300000) : FnC Tryz.prog 168 [.o (.d (.sl (a.map bY))), .o (.d (.sl (b.map bY)))] (ob (eqL du a b)) := by
 have hal : a.length ≤ 4300000 := by omega
 refine ent Tryz.func168 rfl Tryz.call168 rfl (fun C => ?_); simp only [go_sem, st0, Tryz.ntmps168]
 refine af ?_
 refine cnd rfl (fun h0 => ?_) (fun h0 => ?_)
 ·have e : eqL du a b = false := mF _ (by simp only [Bool.not_eq_true', decide_eq_false_iff_not] at h0; omega)
  refine af ?_
  exact aa ⟨⟨_, rfl, by simp only [go_sem, e]⟩, trivial⟩
 have h0 : a.length = b.length := by simpa [Int.ofNat_inj] using h0
 refine af ?_
 refine ak (α := Nat) (fun k => [(13, oi k)]) (fun _ => []) (fun k => k ≤ a.length ∧ eqL du a b = eqL du (a.drop k) (b.drop k)) (fun k => a.length - k) 0 (fun _ => ?_) ?_ ?_ (fun k hk => ?_)
 ·simp only [go_sem]
 ·simp only [go_sem]; simp
 ·simp
 ·obtain ⟨hk, hq⟩ := hk
  simp only [go_sem]
  refine af ?_
  refine cnd rfl (fun h => ?_) (fun h => ?_)
  ·simp only [decide_eq_true_eq, Int.ofNat_lt] at h
   have hb : k < b.length := by omega
   rw [List.drop_eq_getElem_cons h, List.drop_eq_getElem_cons hb, eqL] at hq
   have q0 := @h; have q1 := @hb; refine fg ?_
   refine cnd (b := !(du a[k] b[k])) (by rfl) (fun h2 => ?_) (fun h2 => ?_)
   ·simp only [Bool.not_eq_true'] at h2
    rw [h2, Bool.false_and] at hq
    refine af ?_
    exact aa ⟨⟨_, rfl, by simp only [go_sem, hq]⟩, trivial⟩
   ·simp only [Bool.not_eq_false'] at h2
    rw [h2, Bool.true_and] at hq
    refine af ?_
    refine ae (k + 1) ?_ ?_ ?_
    ·simp only [go_sem]; simp
    ·exact ⟨h, hq⟩
    ·omega
  ·simp only [decide_eq_false_iff_not] at h
   have e : k = a.length := by omega
   subst e
   rw [List.drop_length, List.drop_of_length_le (by omega), eqL] at hq
   refine af ?_
   exact aa ⟨⟨_, rfl, by simp only [go_sem, hq]⟩, trivial⟩
theorem kP (a b : List TResult) (ha : ah a ≤ 4300000) : FnC Tryz.prog 181 [.o (.d (.sl (a.map ai))), .o (.d (.sl (b.map ai)))] (ob (eqL bu a b)) := by
 have hal : a.length ≤ 4300000 := by unfold ah at ha; omega
 refine ent Tryz.func181 rfl Tryz.call181 rfl (fun C => ?_); simp only [go_sem, st0, Tryz.ntmps181]
 refine af ?_
 refine cnd rfl (fun h0 => ?_) (fun h0 => ?_)
 ·have e : eqL bu a b = false := mF _ (by simp only [Bool.not_eq_true', decide_eq_false_iff_not] at h0; omega)
  refine af ?_
  exact aa ⟨⟨_, rfl, by simp only [go_sem, e]⟩, trivial⟩
 have h0 : a.length = b.length := by simpa [Int.ofNat_inj] using h0
 refine af ?_
 refine ak (α := Nat) (fun k => [(5, oi k)]) (fun _ => []) (fun k => k ≤ a.length ∧ eqL bu a b = eqL bu (a.drop k) (b.drop k)) (fun k => a.length - k) 0 (fun _ => ?_) ?_ ?_ (fun k hk => ?_)
 ·simp only [go_sem]
 ·simp only [go_sem]; simp
 ·simp
 ·obtain ⟨hk, hq⟩ := hk
  simp only [go_sem]
  refine af ?_
  refine cnd rfl (fun h => ?_) (fun h => ?_)
  ·simp only [decide_eq_true_eq, Int.ofNat_lt] at h
   have hb : k < b.length := by omega
   rw [List.drop_eq_getElem_cons h, List.drop_eq_getElem_cons hb, eqL] at hq
   have hw := aB wResult a h
   have hv : a[k].fIDs.length ≤ wResult a[k] := by unfold wResult; omega
   have hx : a[k].fIDs.length ≤ 4300000 := by unfold ah at ha; omega
   by_cases h1 : a[k].fName = b[k].fName
   case neg =>
    have h2 : bu a[k] b[k] = false := by simp [bu, h1]
    rw [h2, Bool.false_and] at hq
    have q0 := @h; have q1 := @hb; have q2 := @h1; have q3 := @decide_false; refine f6 ?_
    exact aa ⟨⟨_, rfl, by simp only [go_sem, hq]⟩, trivial⟩
   have h3 : bu a[k] b[k] = eqL du a[k].fIDs b[k].fIDs := by simp [bu, h1]
   have q0 := @h; have q1 := @hb; have q2 := @h1; have q3 := @decide_false; refine mW (gc a[k].fIDs b[k].fIDs hx) ?_
   refine cnd (b := !(bu a[k] b[k])) (by rw [h3]; try rfl) (fun h2 => ?_) (fun h2 => ?_)
   ·simp only [Bool.not_eq_true'] at h2
    rw [h2, Bool.false_and] at hq
    refine af ?_
    exact aa ⟨⟨_, rfl, by simp only [go_sem, hq]⟩, trivial⟩
   ·simp only [Bool.not_eq_false'] at h2
    rw [h2, Bool.true_and] at hq
    refine af ?_
    refine ae (k + 1) ?_ ?_ ?_
    ·simp only [go_sem]; simp
    ·exact ⟨h, hq⟩
    ·omega
  ·simp only [decide_eq_false_iff_not] at h
   have e : k = a.length := by omega
   subst e
   rw [List.drop_length, List.drop_of_length_le (by omega), eqL] at hq
   refine af ?_
   exact aa ⟨⟨_, rfl, by simp only [go_sem, hq]⟩, trivial⟩
theorem kf (x y : TResult) (h : wResult x ≤ 4300000) : FnC Tryz.prog 254 [kB x, kB y] (ob (bu x y)) := by
 have hx : x.fIDs.length ≤ 4300000 := by unfold wResult at h; omega
 refine ent Tryz.func254 rfl Tryz.call254 rfl (fun C => ?_); simp only [go_sem, st0, Tryz.ntmps254]
 by_cases h1 : x.fName = y.fName
 case neg =>
  have q0 := @h1; have q1 := @decide_false; refine fg ?_
  exact aa ⟨⟨_, rfl, by simp only [go_sem, bu, h1, decide_false, Bool.false_and]⟩, trivial⟩
 have q0 := @h1; have q1 := @decide_false; refine fZ (ia x.fIDs y.fIDs hx) ?_
 exact aa ⟨⟨_, rfl, by simp only [go_sem, bu, h1, Bool.true_and]⟩, trivial⟩
theorem nr (a b : List TResult) (ha : ah a ≤ 4300000) : FnC Tryz.prog 253 [.o (.d (.sl (a.map ai))), .o (.d (.sl (b.map ai))), .o (.f 254 [])] (ob (eqL bu a b)) := by
 have hal : a.length ≤ 4300000 := by unfold ah at ha; omega
 refine ent Tryz.func253 rfl Tryz.call253 rfl (fun C => ?_); simp only [go_sem, st0, Tryz.ntmps253]
 refine af ?_
 refine cnd rfl (fun h0 => ?_) (fun h0 => ?_)
 ·have e : eqL bu a b = false := mF _ (by simp only [Bool.not_eq_true', decide_eq_false_iff_not] at h0; omega)
  refine af ?_
  exact aa ⟨⟨_, rfl, by simp only [go_sem, e]⟩, trivial⟩
 have h0 : a.length = b.length := by simpa [Int.ofNat_inj] using h0
 refine af ?_
 refine ak (α := Nat) (fun k => [(17, oi k)]) (fun _ => []) (fun k => k ≤ a.length ∧ eqL bu a b = eqL bu (a.drop k) (b.drop k)) (fun k => a.length - k) 0 (fun _ => ?_) ?_ ?_ (fun k hk => ?_)
 ·simp only [go_sem]
 ·simp only [go_sem]; simp
 ·simp
 ·obtain ⟨hk, hq⟩ := hk
  simp only [go_sem]
  refine af ?_
  refine cnd rfl (fun h => ?_) (fun h => ?_)
  ·simp only [decide_eq_true_eq, Int.ofNat_lt] at h
   have hb : k < b.length := by omega
   rw [List.drop_eq_getElem_cons h, List.drop_eq_getElem_cons hb, eqL] at hq
   have q0 := @h; have q1 := @hb; refine fZ (kf a[k] b[k] (by have := aB wResult a h; unfold ah at ha; omega)) ?_
   refine cnd (b := !(bu a[k] b[k])) (by rfl) (fun h2 => ?_) (fun h2 => ?_)
   ·simp only [Bool.not_eq_true'] at h2
    rw [h2, Bool.false_and] at hq
    refine af ?_
    exact aa ⟨⟨_, rfl, by simp only [go_sem, hq]⟩, trivial⟩
   ·simp only [Bool.not_eq_false'] at h2
    rw [h2, Bool.true_and] at hq
    refine af ?_
    refine ae (k + 1) ?_ ?_ ?_
    ·simp only [go_sem]; simp
    ·exact ⟨h, hq⟩
    ·omega
  ·simp only [decide_eq_false_iff_not] at h
   have e : k = a.length := by omega
   subst e
   rw [List.drop_length, List.drop_of_length_le (by omega), eqL] at hq
   refine af ?_
   exact aa ⟨⟨_, rfl, by simp only [go_sem, hq]⟩, trivial⟩
theorem kQ (a b : List TResult) (ha : ah a ≤ 4300000) : FnC Tryz.prog 186 [.o (.d (.sl (a.map ai))), .o (.d (.sl (b.map ai)))] (ob (eqL bu a b)) := by
 refine ent Tryz.func186 rfl Tryz.call186 rfl (fun C => ?_); simp only [go_sem, st0, Tryz.ntmps186]
 refine cH (nr a b ha) ?_
 exact aa ⟨⟨_, rfl, by simp only [go_sem]⟩, trivial⟩
end Go.Proofs.YtddimbdeggomaaaGreat
end
section
set_option maxRecDepth 100000
set_option maxHeartbeats 4000000
namespace Go.Proofs.YtddimbdeggomaaaGreat
open Go Go.Sx Go.RowKit Go.Proofs
def gN (d : List TDir) (L : List Nat) : Nat := (mu L + 1).toNat
noncomputable def evX (s : TStore) (d : List TDir) (r : List TResult) (ns : List ByteArray) : List TResult × Nat := if hM d && bf s then allE s.fFiles d (resL d) ns (s.fFiles.length + ah r) r (gN d (resL d)) else ([], 0)
noncomputable def evB (s : TStore) (d : List TDir) : Bool := hM d && bf s
theorem iB {d : List TDir} (h : hM d = true) : bE d = true ∧ Least d.length (EE d) (resL d) := by
 unfold hM at h
 split at h
 ·rename_i hv
  refine ⟨hv, ?_⟩
  unfold oc at h
  split at h
  ·rename_i hx
   have hex : ∃ L, Least d.length (EE d) L := by
    have hends := sD (ka d) (cK d) (fun x => Iff.rfl) (d.length * d.length + 2) (by omega)
    simp only at hends
    split at hends
    ·exact ⟨_, hends⟩
    ·exact (hends hx).elim
   obtain ⟨L, hL⟩ := hex
   have e : resL d = L := by unfold resL; rw [if_pos hv]; exact tT hL
   rw [e]; exact hL
  ·cases h
 ·cases h
theorem j7 {d : List TDir} (h : bE d = true) (i : Nat) (hi : i < d.length) : d[i].fName.size ≤ 6 := by
 unfold bE at h
 simp only [Bool.and_eq_true, List.all_eq_true, List.mem_range] at h
 have := h.1 i hi
 unfold ew at this
 rw [List.getElem?_eq_getElem hi] at this
 simp only [Bool.and_eq_true] at this
 have := zS this.1
 omega
theorem eS {s : TStore} (h : bf s = true) : s.fFiles.length ≤ 12 := by
 unfold bf at h
 simp only [Bool.and_eq_true, decide_eq_true_eq] at h
 omega
theorem jg {α : Type} (w : α → Nat) (c : Nat) : ∀ l : List α, (∀ i, (h : i < l.length) → w l[i] ≤ c) → wsum w l ≤ l.length * c
 | [], _ => by simp [wsum]
 | x :: l, h => by
  have h0 := h 0 (by simp)
  have h1 := jg w c l fun i hi => h (i + 1) (by simpa using hi)
  simp only [List.getElem_cons_zero] at h0
  simp only [wsum, List.length_cons, Nat.succ_mul]
  omega
theorem Ev.get {fs : List TFile} {d : List TDir} {L : List Nat} {ns : List ByteArray} {c k : Nat} {R : List TResult} (h : Ev fs d L ns c k R) (i : Nat) (hi : i < d.length) : (R[i]'(by rw [h.len]; exact hi)).fName = d[i].fName ∧ (R[i]'(by rw [h.len]; exact hi)).fIDs = bS R i := by
 have hlen := h.len
 have hR : i < R.length := by omega
 refine ⟨?_, ?_⟩
 ·have := congrArg (fun l : List ByteArray => l[i]?) h.nm
  simp only [List.getElem?_map] at this
  rw [List.getElem?_eq_getElem hR, List.getElem?_eq_getElem hi] at this
  simpa using this
 ·simp [bS, List.getD_eq_getElem?_getD, hR]
theorem Ev.w {fs : List TFile} {d : List TDir} {L : List Nat} {ns : List ByteArray} {c k : Nat} {R : List TResult} (h : Ev fs d L ns c k R) (hv : bE d = true) (hc : c ≤ 4300012) : ah R ≤ 67108864 := by
 have hlen := h.len
 have h5 := dH hv
 have hb := jg wResult 4300018 R fun i hi => by
  obtain ⟨e1, e2⟩ := h.get i (by omega)
  have h1 := j7 hv i (by omega)
  have h2 := h.bd i
  unfold wResult
  rw [e1, e2]
  omega
 unfold ah
 have : R.length * 4300018 ≤ 5 * 4300018 := Nat.mul_le_mul_right _ (by omega)
 omega
theorem BF (R : List TResult) (i : Nat) (nm : ByteArray) (l : List Int) : (R.map ai).set i [sv nm, .sl (l.map bY)] = (R.set i ⟨nm, l⟩).map ai := by rw [List.map_set]; rfl
theorem jh (a b : List Int) : eqL du a b = decide (a = b) := by
 induction a generalizing b with
 | nil => cases b <;> simp [eqL]
 | cons x a ih =>
  cases b with
  | nil => simp [eqL]
  | cons y b =>
   simp only [eqL, ih, du]
   by_cases h1 : x = y <;> by_cases h2 : a = b <;> simp [h1, h2]
theorem j8 (ns : List ByteArray) (r : List TResult) (d : List TDir) (k : Nat) (h : k < d.length) : cy ns r (d.take (k + 1)) = cy ns r (d.take k) ++ [⟨d[k].fName, if hasS ns d[k].fName then [] else aq d[k].fName r⟩] := by
 unfold cy; rw [List.take_succ_eq_append_getElem h, List.map_append]; rfl
theorem lq (ns : List ByteArray) (r : List TResult) (d : List TDir) (k : Nat) : (cy ns r (d.take k)).length ≤ k := by unfold cy; simp; omega
theorem Dd (d : List TDir) (k : Nat) (h : k < d.length) : hasS (dirNs d) d[k].fName = true := by
 rw [d8]
 exact List.mem_map.2 ⟨d[k], List.getElem_mem h, rfl⟩
def chB (fs : List TFile) (d : List TDir) (L : List Nat) (ns : List ByteArray) (k i : Nat) (R : List TResult) : Bool := decide (dv R < dv (passT fs d L ns k i R))
theorem De (l : List Nat) (m : Int) : m ≤ j9 l m := by
 induction l generalizing m with
 | nil => simp [j9]
 | cons x l ih =>
  simp only [j9]
  split
  ·have := ih (x : Int); omega
  ·exact ih m
theorem Df (l : List Nat) (m c : Int) (hm : m ≤ c) (h : ∀ x ∈ l, (x : Int) ≤ c) : j9 l m ≤ c := by
 induction l generalizing m with
 | nil => exact hm
 | cons x l ih =>
  simp only [j9]
  refine ih _ ?_ fun y hy => h y (List.mem_cons_of_mem _ hy)
  split
  ·exact h x (by simp)
  ·exact hm
theorem xk {d : List TDir} {L : List Nat} (h : Least d.length (EE d) L) : mu L ≤ (d.length : Int) := by
 obtain ⟨G, hG, hs⟩ := nn (ka d) h.clo
 refine Df L (-1) _ (by omega) fun x hx => ?_
 obtain ⟨i, hi, rfl⟩ := List.mem_iff_getElem.1 hx
 have h1 := h.le G hG i
 have h2 := hs i (by rw [← h.clo.len]; exact hi)
 rw [hU L i hi]
 omega
theorem ss (fs : List TFile) (d : List TDir) (L : List Nat) (ns : List ByteArray) (k : Nat) : ∀ (F : Nat) (x : List TResult × Nat), (kY fs d L ns k F x).2 ≤ x.2 + F
 | 0, x => by simp [kY]
 | F + 1, x => by
  unfold kY
  split
  ·have := ss fs d L ns k F (passT fs d L ns k d.length x.1, x.2 + 1)
   simp only at this
   omega
  ·simp only; omega
theorem mr (fs : List TFile) (d : List TDir) (L : List Nat) (ns : List ByteArray) (c : Nat) (r : List TResult) : ∀ k, (allE fs d L ns c r k).2 ≤ k * (d.length * c + 1)
 | 0 => by simp [allE]
 | k + 1 => by
  have h1 := mr fs d L ns c r k
  have h2 := ss fs d L ns k (d.length * c + 1) (allE fs d L ns c r k)
  simp only [allE, Nat.succ_mul]
  omega
theorem iC (d : List TDir) (L : List Nat) (k : Nat) : (k : Int) ≤ mu L ↔ k < gN d L := by
 have : -1 ≤ mu L := De L (-1)
 unfold gN
 omega
theorem qn {fs : List TFile} {d : List TDir} {L : List Nat} {ns : List ByteArray} {k i : Nat} {R : List TResult} (h : passT fs d L ns k (i + 1) R = passT fs d L ns k i R) : chB fs d L ns k (i + 1) R = chB fs d L ns k i R := by unfold chB; rw [h]
theorem su (s : TStore) (d : List TDir) (r : List TResult) (ns : List ByteArray) (hs : al s ≤ 4300000) (hd : aA d ≤ 4300000) (hr : ah r ≤ 4300000) (hns : ns.length ≤ 4300000) : FnC Tryz.prog 89 [bV s, .o (.d (.sl (d.map ax))), .o (.d (.sl (r.map ai))), .o (.d (.sl (ns.map ba)))] (.t [(false, [.w 125 2 ((evX s d r ns).1.map ai)]), (false, [.d (iv ((evX s d r ns).2 : Nat))]), (false, [.d (bv (evB s d))])]) := by
 have hd0 : d.length + wsum wDir d ≤ 4300000 := hd
 have hs0 : aj s.fSchema + (s.fFiles.length + wsum wFile s.fFiles) ≤ 4300000 := hs
 refine ent Tryz.func89 rfl Tryz.call89 rfl (fun C => ?_); simp only [go_sem, st0, Tryz.ntmps89]
 cases hb : hM d
 ·have e1 : evX s d r ns = ([], 0) := by simp [evX, hb]
  have e2 : evB s d = false := by simp [evB, hb]
  have q0 := @hb; refine cg (dN d hd) ?_
  exact aa ⟨⟨_, rfl, by simp only [go_sem, e1, e2, List.map_nil]; simp⟩, by simp [aE]⟩
 cases hst : bf s
 ·have e1 : evX s d r ns = ([], 0) := by simp [evX, hst]
  have e2 : evB s d = false := by simp [evB, hst]
  have q0 := @hb; have q1 := @hst; refine l7 (dN d hd) (ez s hs) ?_
  exact aa ⟨⟨_, rfl, by simp only [go_sem, e1, e2, List.map_nil]; simp⟩, by simp [aE]⟩
 obtain ⟨hv, hleast⟩ := iB hb
 have hclo := hleast.clo
 have hvq := fun i (hi : i < d.length) => eo hv i hi
 have h5 := dH hv
 have h12 := eS hst
 have hLl := hclo.len
 obtain ⟨CC, hCC⟩ : ∃ c, s.fFiles.length + ah r = c := ⟨_, rfl⟩
 have hC2 : CC ≤ 4300012 := by omega
 have e1 : evX s d r ns = allE s.fFiles d (resL d) ns CC r (gN d (resL d)) := by simp [evX, hb, hst, hCC]
 have e2 : evB s d = true := by simp [evB, hb, hst]
 have q0 := @hb; have q1 := @hst; refine l7 (dN d hd) (ez s hs) ?_
 refine ak (α := Nat) (fun k => [(13, .o (.s 2)), (35, .o .u), (38, oi k)]) (fun k => [(2, .row 125 2 ((cy ns r (d.take k)).map ai) true)]) (fun k => k ≤ d.length) (fun k => d.length - k) 0 (fun _ => ?_) ?_ ?_ (fun k hk => ?_)
 ·simp only [go_sem]
 ·simp only [go_sem]; simp [cy]
 ·simp
 ·simp only [go_sem]
  refine af ?_
  refine cnd rfl (fun h => ?_) (fun h => ?_)
  ·simp only [decide_eq_true_eq, Int.ofNat_lt] at h
   have hsl := lq ns r d k
   have hl1 : (cy ns r (d.take k)).length + 1 ≤ 140737488355328 := by omega
   have hl2 : ((cy ns r (d.take k)).length + 1) * 40 ≤ 140737488355328 := by omega
   have hsu := j8 ns r d k h
   cases hn : hasS ns d[k].fName
   ·rw [hn] at hsu
    have q0 := @h; have q1 := @hn; have q2 := @hl1; have q3 := @hl2; refine mY (bQ ns d[k].fName hns) (fP r d[k].fName (by omega)) ?_
    refine ae (k + 1) ?_ ?_ ?_
    ·simp only [go_sem, hsu, List.map_append]; simp [ai]
    ·omega
    ·omega
   ·rw [hn] at hsu
    have q0 := @h; have q1 := @hn; have q2 := @hl1; have q3 := @hl2; refine mW (bQ ns d[k].fName hns) ?_
    refine ae (k + 1) ?_ ?_ ?_
    ·simp only [go_sem, hsu, List.map_append]; simp [ai]
    ·omega
    ·omega
  ·simp only [decide_eq_false_iff_not] at h
   have e : k = d.length := by omega
   subst e
   rw [List.take_length]
   generalize hL : resL d = L at *
   refine af ?_
   refine ak (α := Nat) (fun k => [(17, oi ((allE s.fFiles d L ns CC r k).2 : Nat)), (18, oi k)]) (fun k => [(2, .row 125 2 ((allE s.fFiles d L ns CC r k).1.map ai) true)]) (fun k => k ≤ gN d L) (fun k => gN d L - k) 0 (fun _ => ?_) ?_ ?_ (fun k hk => ?_)
   ·simp only [go_sem]
   ·simp only [go_sem]; simp [allE]
   ·simp
   ·simp only [go_sem]
    have q0 := @hL; refine cg (xl d hd (by rw [hL]; omega)) ?_
    refine cnd rfl (fun hlev => ?_) (fun hlev => ?_)
    ·simp only [decide_eq_true_eq] at hlev
     have hkK := (iC d L k).1 hlev
     have hev := jl (fs := s.fFiles) (ns := ns) (r := r) hvq hclo k
     rw [hCC] at hev
     have htop := xk hleast
     have hcnt := mr s.fFiles d L ns CC r k
     have hnm : d.length * CC ≤ 5 * 4300012 := Nat.mul_le_mul h5 hC2
     have hcnt2 : k * (d.length * CC + 1) ≤ 5 * 21500061 := Nat.mul_le_mul (by omega) (by omega)
     have hround : Round s.fFiles d L ns CC k (allE s.fFiles d L ns CC r (k + 1)) ((allE s.fFiles d L ns CC r k).1, (allE s.fFiles d L ns CC r k).2, true) := Round.start hev
     generalize hT : allE s.fFiles d L ns CC r (k + 1) = T at *
     generalize allE s.fFiles d L ns CC r k = X at *
     refine af ?_
     refine ak (α := List TResult × Nat × Bool) (fun x => [(17, oi (x.2.1 : Nat)), (19, ob x.2.2)]) (fun x => [(2, .row 125 2 (x.1.map ai) true)]) (fun x => Round s.fFiles d L ns CC k T (x.1, x.2.1, x.2.2) ∧ x.2.1 ≤ X.2 + dv x.1 + (if x.2.2 then 0 else 1)) (fun x => if x.2.2 then d.length * CC + 1 - dv x.1 else 0) (X.1, X.2, true) (fun _ => ?_) ?_ ?_ (fun x hx => ?_)
     ·simp only [go_sem]
     ·simp only [go_sem]; simp
     ·exact ⟨hround, by simp⟩
     ·obtain ⟨R, c, b⟩ := x
      obtain ⟨hx, hcb⟩ := hx
      simp only at hcb
      simp only [go_sem]
      refine af ?_
      refine cnd rfl (fun hbt => ?_) (fun hbt => ?_)
      ·subst hbt
       have hRe : Ev s.fFiles d L ns CC k R := hx.ev
       have hRt := hRe.tot
       simp only [if_true, Nat.add_zero] at hcb
       have hcI : c ≤ 1000000000 := by omega
       have hpass := hx.pass hvq hclo
       refine af ?_
       refine ak (α := Nat) (fun i => [(19, ob (chB s.fFiles d L ns k i R)), (71, oi i)]) (fun i => [(2, .row 125 2 ((passT s.fFiles d L ns k i R).map ai) true)]) (fun i => i ≤ d.length) (fun i => d.length - i) 0 (fun _ => ?_) ?_ ?_ (fun i hi => ?_)
       ·simp only [go_sem]
       ·simp only [go_sem]; simp [chB, passT]
       ·simp
       ·simp only [go_sem]
        refine af ?_
        refine cnd rfl (fun h => ?_) (fun h => ?_)
        ·simp only [decide_eq_true_eq, Int.ofNat_lt] at h
         have hEv := eI hvq hclo i R (by omega) hRe
         have hcs := d9 hvq hclo i R (by omega) hRe
         have hsu := gP s.fFiles d L ns k i R h
         have hchk : passT s.fFiles d L ns k (i + 1) R = passT s.fFiles d L ns k i R → chB s.fFiles d L ns k (i + 1) R = chB s.fFiles d L ns k i R := qn
         have hchn : dv R < dv (passT s.fFiles d L ns k (i + 1) R) → chB s.fFiles d L ns k (i + 1) R = true := fun hx => by unfold chB; exact decide_eq_true hx
         have hw := hEv.w hv hC2
         obtain ⟨g1, g2⟩ := hEv.get i h
         have hPl := hEv.len
         have hbd := hEv.bd i
         have hwd := aB wDir d h
         have hwq : bb d[i].fQuery ≤ wDir d[i] := by unfold wDir; omega
         have hgrow := fun hin hik hne => hEv.grow h hin hik hne
         have hsame := fun he => kG hEv h he
         generalize passT s.fFiles d L ns k i R = P at *
         generalize hP2 : passT s.fFiles d L ns k (i + 1) R = P2 at *
         have hiP : i < P.length := by omega
         have hiL : i < L.length := by omega
         have hg := hU L i hiL
         have hsl := mD s.fFiles d[i].fQuery P
         by_cases hik : lv L i = k
         ·have hkI : ((lv L i : Nat) : Int) = ((k : Nat) : Int) := by omega
          cases hn : hasS ns d[i].fName
          ·rw [if_neg (fun h => by rw [hn] at h; cases h.2)] at hsu
           have q0 := @h; have q1 := @hiP; have q2 := @hiL; have q3 := @hg; have q4 := @hkI; have q5 := @hn; have q6 := @decide_true; have q7 := @decide_false; refine u1 (bQ ns d[i].fName hns) ?_
           refine ae (i + 1) ?_ ?_ ?_
           ·simp only [go_sem, hP2, hchk hsu, hsu]; simp
           ·omega
           ·omega
          ·rw [if_pos ⟨hik, hn⟩] at hsu
           by_cases he : eJ s.fFiles d[i].fQuery P = bS P i
           ·have hE : eqL du (eJ s.fFiles d[i].fQuery P) (bS P i) = true := by rw [jh]; exact decide_eq_true he
            have hPP : P2 = P := by rw [hsu, hsame he]
            have qH := aI @h (aI @hiP (aI @hiL (aI @hg (aI @hkI (aI @g1 (aI @g2 (aI @hE (aI @hn (aI @decide_true @decide_false))))))))); repeat' (with_reducible first | refine nY ?_ | (refine mX ?_; try simp only [go_sem, qH]) | refine kD ?_ | refine rD ?_ | refine cP (bQ ns d[i].fName hns) ?_ | refine vR (mv s d[i].fQuery P hs (by omega) hw) ?_ | refine vD (mv s d[i].fQuery P hs (by omega) hw) ?_ | refine vL (ia (eJ s.fFiles d[i].fQuery P) (bS P i) (by omega)) ?_ | refine aO ?_ | fail)
            refine ae (i + 1) ?_ ?_ ?_
            ·simp only [go_sem, hP2, hchk hPP, hPP]; simp
            ·omega
            ·omega
           ·have hE : eqL du (eJ s.fFiles d[i].fQuery P) (bS P i) = false := by rw [jh]; exact decide_eq_false he
            have hlt := hgrow hn hik he
            have hch2 : chB s.fFiles d L ns k (i + 1) R = true := hchn (by
             rw [hsu]
             rcases hcs with e | e
             ·rw [← e]; exact hlt
             ·omega)
            have qH := aI @h (aI @hiP (aI @hiL (aI @hg (aI @hkI (aI @g1 (aI @g2 (aI @hE (aI @hn (aI @decide_true @decide_false))))))))); repeat' (with_reducible first | refine nY ?_ | (refine mX ?_; try simp only [go_sem, qH]) | refine kD ?_ | refine rD ?_ | refine cP (bQ ns d[i].fName hns) ?_ | refine vR (mv s d[i].fQuery P hs (by omega) hw) ?_ | refine vD (mv s d[i].fQuery P hs (by omega) hw) ?_ | refine vL (ia (eJ s.fFiles d[i].fQuery P) (bS P i) (by omega)) ?_ | refine aO ?_ | fail)
            refine ae (i + 1) ?_ ?_ ?_
            ·simp only [go_sem, hP2, hch2, hsu, ke, ← BF]; simp
            ·omega
            ·omega
         ·rw [if_neg (fun h => hik h.1)] at hsu
          have hkI : ¬ ((lv L i : Nat) : Int) = ((k : Nat) : Int) := by omega
          have q0 := @h; have q1 := @hiP; have q2 := @hiL; have q3 := @hg; have q4 := @hkI; have q5 := @decide_true; have q6 := @decide_false; refine wX ?_
          refine ae (i + 1) ?_ ?_ ?_
          ·simp only [go_sem, hP2, hchk hsu, hsu]; simp
          ·omega
          ·omega
        ·simp only [decide_eq_false_iff_not] at h
         have e : i = d.length := by omega
         subst e
         have hPe := eI hvq hclo d.length R (Nat.le_refl _) hRe
         have hPt := hPe.tot
         refine af ?_
         refine ae (passT s.fFiles d L ns k d.length R, c + 1, chB s.fFiles d L ns k d.length R) ?_ ?_ ?_
         ·simp only [go_sem]; simp
         ·refine ⟨hpass, ?_⟩
          simp only
          have hpc := d9 hvq hclo d.length R (Nat.le_refl _) hRe
          cases hcb2 : chB s.fFiles d L ns k d.length R with
          | false =>
           have h9 : dv R ≤ dv (passT s.fFiles d L ns k d.length R) := by
            rcases hpc with e | e
            ·rw [e]; exact Nat.le_refl _
            ·omega
           simp only [Bool.false_eq_true, if_false]; omega
          | true =>
           have := of_decide_eq_true hcb2
           simp only [if_true]; omega
         ·simp only [if_true]
          cases hcb3 : chB s.fFiles d L ns k d.length R with
          | false => simp only [Bool.false_eq_true, if_false]; omega
          | true =>
           have := of_decide_eq_true hcb3
           simp only [if_true]; omega
      ·subst hbt
       have hTe := hx.fin rfl
       simp only at hTe
       refine af ?_
       refine ae (k + 1) ?_ ?_ ?_
       ·simp only [go_sem, hT, hTe]; simp
       ·omega
       ·omega
    ·simp only [decide_eq_false_iff_not] at hlev
     have hkK : ¬ k < gN d L := fun h => hlev ((iC d L k).2 h)
     have e : k = gN d L := by omega
     subst e
     refine af ?_
     exact aa ⟨⟨_, rfl, by simp only [go_sem, e1, e2]; try simp⟩, by simp [aE]⟩
end Go.Proofs.YtddimbdeggomaaaGreat
end
section
set_option maxRecDepth 100000
set_option maxHeartbeats 4000000
namespace Go.Proofs.YtddimbdeggomaaaGreat
open Go Go.Sx Go.RowKit Go.Proofs
theorem vu (s : TStore) (d : List TDir) (r : List TResult) (ns : List ByteArray) (hs : al s ≤ 4300000) (hd : aA d ≤ 4300000) (hr : ah r ≤ 4300000) (hns : ns.length ≤ 4300000) : FnC Tryz.prog 18 [bV s, .o (.d (.sl (d.map ax))), .o (.d (.sl (r.map ai))), .o (.d (.sl (ns.map ba)))] (.t [(false, [.d (.sl ((evX s d r ns).1.map ai))]), (false, [.d (bv (evB s d))])]) := by
 have hd0 : d.length + wsum wDir d ≤ 4300000 := hd
 have hs0 : aj s.fSchema + (s.fFiles.length + wsum wFile s.fFiles) ≤ 4300000 := hs
 refine ent Tryz.func18 rfl Tryz.call18 rfl (fun C => ?_); simp only [go_sem, st0, Tryz.ntmps18]
 cases hb : hM d
 ·have e1 : evX s d r ns = ([], 0) := by simp [evX, hb]
  have e2 : evB s d = false := by simp [evB, hb]
  have qH := @hb; repeat' (with_reducible first | refine nY ?_ | (refine mX ?_; try simp only [go_sem, qH]) | refine kD ?_ | refine rX ?_ | refine xD ?_ | refine rD ?_ | refine cP (da d hd) ?_ | refine aO ?_ | fail)
  refine bW (Sees.frz 1 rfl) ?_
  simp only [go_sem]
  exact aa ⟨⟨_, rfl, by simp only [go_sem, e1, e2, List.map_nil]; try simp⟩, by simp [aE]⟩
 cases hst : bf s
 ·have e1 : evX s d r ns = ([], 0) := by simp [evX, hst]
  have e2 : evB s d = false := by simp [evB, hst]
  have qH := aI @hb @hst; repeat' (with_reducible first | refine nY ?_ | (refine mX ?_; try simp only [go_sem, qH]) | refine kD ?_ | refine rX ?_ | refine xD ?_ | refine rD ?_ | refine cP (da d hd) ?_ | refine cP (bR s hs) ?_ | refine aO ?_ | fail)
  refine bW (Sees.frz 1 rfl) ?_
  simp only [go_sem]
  exact aa ⟨⟨_, rfl, by simp only [go_sem, e1, e2, List.map_nil]; try simp⟩, by simp [aE]⟩
 obtain ⟨hv, hleast⟩ := iB hb
 have hclo := hleast.clo
 have hvq := fun i (hi : i < d.length) => eo hv i hi
 have h5 := dH hv
 have h12 := eS hst
 have hLl := hclo.len
 obtain ⟨CC, hCC⟩ : ∃ c, s.fFiles.length + ah r = c := ⟨_, rfl⟩
 have hC2 : CC ≤ 4300012 := by omega
 have e1 : evX s d r ns = allE s.fFiles d (resL d) ns CC r (gN d (resL d)) := by simp [evX, hb, hst, hCC]
 have e2 : evB s d = true := by simp [evB, hb, hst]
 have qH := aI @hb @hst; repeat' (with_reducible first | refine nY ?_ | (refine mX ?_; try simp only [go_sem, qH]) | refine kD ?_ | refine rX ?_ | refine xD ?_ | refine rD ?_ | refine cP (da d hd) ?_ | refine cP (bR s hs) ?_ | refine aO ?_ | fail)
 refine D7 1 rfl ?_
 simp only [go_sem]
 refine ak (α := Nat) (fun k => [(12, .o (.s 1)), (32, .o .u), (13, oi k)]) (fun k => [(1, .row 125 2 ((cy ns r (d.take k)).map ai) false)]) (fun k => k ≤ d.length) (fun k => d.length - k) 0 (fun _ => ?_) ?_ ?_ (fun k hk => ?_)
 ·simp only [go_sem]
 ·simp only [go_sem]; simp [cy]
 ·simp
 ·simp only [go_sem]
  repeat' (with_reducible first | refine nY ?_ | (refine mX ?_; try simp only [go_sem]) | refine kD ?_ | refine rX ?_ | refine xD ?_ | refine rD ?_ | refine aO ?_ | fail)
  refine cnd rfl (fun h => ?_) (fun h => ?_)
  ·simp only [decide_eq_true_eq, Int.ofNat_lt] at h
   have hsl := lq ns r d k
   have hl1 : (cy ns r (d.take k)).length + 1 ≤ 140737488355328 := by omega
   have hl2 : ((cy ns r (d.take k)).length + 1) * 40 ≤ 140737488355328 := by omega
   have hsu := j8 ns r d k h
   cases hn : hasS ns d[k].fName
   ·rw [hn] at hsu
    have qH := aI @h (aI @hn (aI @hl1 @hl2)); repeat' (with_reducible first | refine nY ?_ | (refine mX ?_; try simp only [go_sem, qH]) | refine kD ?_ | refine rX ?_ | refine xD ?_ | refine rD ?_ | refine cP (cN ns d[k].fName hns) ?_ | refine cP (dZ r d[k].fName (by omega)) ?_ | refine aO ?_ | fail)
    refine ae (k + 1) ?_ ?_ ?_
    ·simp only [go_sem, hsu, List.map_append]; simp [ai]
    ·omega
    ·omega
   ·rw [hn] at hsu
    have qH := aI @h (aI @hn (aI @hl1 @hl2)); repeat' (with_reducible first | refine nY ?_ | (refine mX ?_; try simp only [go_sem, qH]) | refine kD ?_ | refine rX ?_ | refine xD ?_ | refine rD ?_ | refine cP (cN ns d[k].fName hns) ?_ | refine cP (dZ r d[k].fName (by omega)) ?_ | refine aO ?_ | fail)
    refine ae (k + 1) ?_ ?_ ?_
    ·simp only [go_sem, hsu, List.map_append]; simp [ai]
    ·omega
    ·omega
  ·simp only [decide_eq_false_iff_not] at h
   have e : k = d.length := by omega
   subst e
   rw [List.take_length]
   generalize hL : resL d = L at *
   repeat' (with_reducible first | refine nY ?_ | (refine mX ?_; try simp only [go_sem]) | refine kD ?_ | refine rX ?_ | refine xD ?_ | refine rD ?_ | refine aO ?_ | fail)
   refine ak (α := Nat) (fun k => [(15, oi k)]) (fun k => [(1, .row 125 2 ((allE s.fFiles d L ns CC r k).1.map ai) false)]) (fun k => k ≤ gN d L) (fun k => gN d L - k) 0 (fun _ => ?_) ?_ ?_ (fun k hk => ?_)
   ·simp only [go_sem]
   ·simp only [go_sem]; simp [allE]
   ·simp
   ·simp only [go_sem]
    have qH := @hL; repeat' (with_reducible first | refine nY ?_ | (refine mX ?_; try simp only [go_sem, qH]) | refine kD ?_ | refine rX ?_ | refine xD ?_ | refine rD ?_ | refine cP (qo d hd (by rw [hL]; omega)) ?_ | refine aO ?_ | fail)
    refine cnd rfl (fun hlev => ?_) (fun hlev => ?_)
    ·simp only [decide_eq_true_eq] at hlev
     have hkK := (iC d L k).1 hlev
     have hev := jl (fs := s.fFiles) (ns := ns) (r := r) hvq hclo k
     rw [hCC] at hev
     have htop := xk hleast
     have hcnt := mr s.fFiles d L ns CC r k
     have hnm : d.length * CC ≤ 5 * 4300012 := Nat.mul_le_mul h5 hC2
     have hcnt2 : k * (d.length * CC + 1) ≤ 5 * 21500061 := Nat.mul_le_mul (by omega) (by omega)
     have hround : Round s.fFiles d L ns CC k (allE s.fFiles d L ns CC r (k + 1)) ((allE s.fFiles d L ns CC r k).1, (allE s.fFiles d L ns CC r k).2, true) := Round.start hev
     generalize hT : allE s.fFiles d L ns CC r (k + 1) = T at *
     generalize allE s.fFiles d L ns CC r k = X at *
     repeat' (with_reducible first | refine nY ?_ | (refine mX ?_; try simp only [go_sem]) | refine kD ?_ | refine rX ?_ | refine xD ?_ | refine rD ?_ | refine aO ?_ | fail)
     refine ak (α := List TResult × Nat × Bool) (fun x => [(16, ob x.2.2)]) (fun x => [(1, .row 125 2 (x.1.map ai) false)]) (fun x => Round s.fFiles d L ns CC k T (x.1, x.2.1, x.2.2) ∧ x.2.1 ≤ X.2 + dv x.1 + (if x.2.2 then 0 else 1)) (fun x => if x.2.2 then d.length * CC + 1 - dv x.1 else 0) (X.1, X.2, true) (fun _ => ?_) ?_ ?_ (fun x hx => ?_)
     ·simp only [go_sem]
     ·simp only [go_sem]; simp
     ·exact ⟨hround, by simp⟩
     ·obtain ⟨R, c, b⟩ := x
      obtain ⟨hx, hcb⟩ := hx
      simp only at hcb
      simp only [go_sem]
      repeat' (with_reducible first | refine nY ?_ | (refine mX ?_; try simp only [go_sem]) | refine kD ?_ | refine rX ?_ | refine xD ?_ | refine rD ?_ | refine aO ?_ | fail)
      refine cnd rfl (fun hbt => ?_) (fun hbt => ?_)
      ·subst hbt
       have hRe : Ev s.fFiles d L ns CC k R := hx.ev
       have hRt := hRe.tot
       simp only [if_true, Nat.add_zero] at hcb
       have hcI : c ≤ 1000000000 := by omega
       have hpass := hx.pass hvq hclo
       repeat' (with_reducible first | refine nY ?_ | (refine mX ?_; try simp only [go_sem]) | refine kD ?_ | refine rX ?_ | refine xD ?_ | refine rD ?_ | refine aO ?_ | fail)
       refine ak (α := Nat) (fun i => [(16, ob (chB s.fFiles d L ns k i R)), (17, oi i)]) (fun i => [(1, .row 125 2 ((passT s.fFiles d L ns k i R).map ai) false)]) (fun i => i ≤ d.length) (fun i => d.length - i) 0 (fun _ => ?_) ?_ ?_ (fun i hi => ?_)
       ·simp only [go_sem]
       ·simp only [go_sem]; simp [chB, passT]
       ·simp
       ·simp only [go_sem]
        repeat' (with_reducible first | refine nY ?_ | (refine mX ?_; try simp only [go_sem]) | refine kD ?_ | refine rX ?_ | refine xD ?_ | refine rD ?_ | refine aO ?_ | fail)
        refine cnd rfl (fun h => ?_) (fun h => ?_)
        ·simp only [decide_eq_true_eq, Int.ofNat_lt] at h
         have hEv := eI hvq hclo i R (by omega) hRe
         have hcs := d9 hvq hclo i R (by omega) hRe
         have hsu := gP s.fFiles d L ns k i R h
         have hchk : passT s.fFiles d L ns k (i + 1) R = passT s.fFiles d L ns k i R → chB s.fFiles d L ns k (i + 1) R = chB s.fFiles d L ns k i R := qn
         have hchn : dv R < dv (passT s.fFiles d L ns k (i + 1) R) → chB s.fFiles d L ns k (i + 1) R = true := fun hx => by unfold chB; exact decide_eq_true hx
         have hw := hEv.w hv hC2
         obtain ⟨g1, g2⟩ := hEv.get i h
         have hPl := hEv.len
         have hbd := hEv.bd i
         have hwd := aB wDir d h
         have hwq : bb d[i].fQuery ≤ wDir d[i] := by unfold wDir; omega
         have hgrow := fun hin hik hne => hEv.grow h hin hik hne
         have hsame := fun he => kG hEv h he
         generalize passT s.fFiles d L ns k i R = P at *
         generalize hP2 : passT s.fFiles d L ns k (i + 1) R = P2 at *
         have hiP : i < P.length := by omega
         have hiL : i < L.length := by omega
         have hg := hU L i hiL
         have hsl := mD s.fFiles d[i].fQuery P
         by_cases hik : lv L i = k
         ·have hkI : ((lv L i : Nat) : Int) = ((k : Nat) : Int) := by omega
          cases hn : hasS ns d[i].fName
          ·rw [if_neg (fun h => by rw [hn] at h; cases h.2)] at hsu
           have qH := aI @h (aI @hiP (aI @hiL (aI @hg (aI @hkI (aI @hn (aI @decide_true @decide_false)))))); repeat' (with_reducible first | refine nY ?_ | (refine mX ?_; try simp only [go_sem, qH]) | refine kD ?_ | refine rX ?_ | refine xD ?_ | refine rD ?_ | refine cP (cN ns d[i].fName hns) ?_ | refine aO ?_ | fail)
           refine ae (i + 1) ?_ ?_ ?_
           ·simp only [go_sem, hP2, hchk hsu, hsu]; simp
           ·omega
           ·omega
          ·rw [if_pos ⟨hik, hn⟩] at hsu
           by_cases he : eJ s.fFiles d[i].fQuery P = bS P i
           ·have hE : eqL du (eJ s.fFiles d[i].fQuery P) (bS P i) = true := by rw [jh]; exact decide_eq_true he
            have hPP : P2 = P := by rw [hsu, hsame he]
            have qH := aI @h (aI @hiP (aI @hiL (aI @hg (aI @hkI (aI @g1 (aI @g2 (aI @hE (aI @hn (aI @decide_true @decide_false))))))))); repeat' (with_reducible first | refine nY ?_ | (refine mX ?_; try simp only [go_sem, qH]) | refine kD ?_ | refine rT [7] [98] ?_ | refine bi (aX ?_) (uX ?_) | refine bI (aX ?_) ?_ | (refine uA ?_; simp only [go_sem, qH]; (repeat' first | omega | refine And.intro ?_ ?_ | refine cP (cN ns d[i].fName hns) ?_ | (refine mX ?_; simp only [go_sem, qH] <;> fail)); done) | refine rX ?_ | refine xD ?_ | refine rD ?_ | refine cP (cN ns d[i].fName hns) ?_ | refine vR (f9 s d[i].fQuery P hs (by omega) hw) ?_ | refine vG (f9 s d[i].fQuery P hs (by omega) hw) ?_ | refine vL (gc (eJ s.fFiles d[i].fQuery P) (bS P i) (by omega)) ?_ | refine aO ?_ | fail)
            refine ae (i + 1) ?_ ?_ ?_
            ·simp only [go_sem, hP2, hchk hPP, hPP]; simp
            ·omega
            ·omega
           ·have hE : eqL du (eJ s.fFiles d[i].fQuery P) (bS P i) = false := by rw [jh]; exact decide_eq_false he
            have hlt := hgrow hn hik he
            have hch2 : chB s.fFiles d L ns k (i + 1) R = true := hchn (by
             rw [hsu]
             rcases hcs with e | e
             ·rw [← e]; exact hlt
             ·omega)
            have qH := aI @h (aI @hiP (aI @hiL (aI @hg (aI @hkI (aI @g1 (aI @g2 (aI @hE (aI @hn (aI @decide_true @decide_false))))))))); repeat' (with_reducible first | refine nY ?_ | (refine mX ?_; try simp only [go_sem, qH]) | refine kD ?_ | refine rT [7] [98] ?_ | refine bi (aX ?_) (uX ?_) | refine bI (aX ?_) ?_ | (refine uA ?_; simp only [go_sem, qH]; (repeat' first | omega | refine And.intro ?_ ?_ | refine cP (cN ns d[i].fName hns) ?_ | (refine mX ?_; simp only [go_sem, qH] <;> fail)); done) | refine rX ?_ | refine xD ?_ | refine rD ?_ | refine cP (cN ns d[i].fName hns) ?_ | refine vR (f9 s d[i].fQuery P hs (by omega) hw) ?_ | refine vG (f9 s d[i].fQuery P hs (by omega) hw) ?_ | refine vL (gc (eJ s.fFiles d[i].fQuery P) (bS P i) (by omega)) ?_ | refine aO ?_ | fail)
            refine ae (i + 1) ?_ ?_ ?_
            ·simp only [go_sem, hP2, hch2, hsu, ke, ← BF]; simp
            ·omega
            ·omega
         ·rw [if_neg (fun h => hik h.1)] at hsu
          have hkI : ¬ ((lv L i : Nat) : Int) = ((k : Nat) : Int) := by omega
          have qH := aI @h (aI @hiP (aI @hiL (aI @hg (aI @hkI (aI @decide_true @decide_false))))); repeat' (with_reducible first | refine nY ?_ | (refine mX ?_; try simp only [go_sem, qH]) | refine kD ?_ | refine rX ?_ | refine xD ?_ | refine rD ?_ | refine aO ?_ | fail)
          refine ae (i + 1) ?_ ?_ ?_
          ·simp only [go_sem, hP2, hchk hsu, hsu]; simp
          ·omega
          ·omega
        ·simp only [decide_eq_false_iff_not] at h
         have e : i = d.length := by omega
         subst e
         have hPe := eI hvq hclo d.length R (Nat.le_refl _) hRe
         have hPt := hPe.tot
         repeat' (with_reducible first | refine nY ?_ | (refine mX ?_; try simp only [go_sem]) | refine kD ?_ | refine rX ?_ | refine xD ?_ | refine rD ?_ | refine aO ?_ | fail)
         refine ae (passT s.fFiles d L ns k d.length R, c + 1, chB s.fFiles d L ns k d.length R) ?_ ?_ ?_
         ·simp only [go_sem]; simp
         ·refine ⟨hpass, ?_⟩
          simp only
          have hpc := d9 hvq hclo d.length R (Nat.le_refl _) hRe
          cases hcb2 : chB s.fFiles d L ns k d.length R with
          | false =>
           have h9 : dv R ≤ dv (passT s.fFiles d L ns k d.length R) := by
            rcases hpc with e | e
            ·rw [e]; exact Nat.le_refl _
            ·omega
           simp only [Bool.false_eq_true, if_false]; omega
          | true =>
           have := of_decide_eq_true hcb2
           simp only [if_true]; omega
         ·simp only [if_true]
          cases hcb3 : chB s.fFiles d L ns k d.length R with
          | false => simp only [Bool.false_eq_true, if_false]; omega
          | true =>
           have := of_decide_eq_true hcb3
           simp only [if_true]; omega
      ·subst hbt
       have hTe := hx.fin rfl
       simp only at hTe
       repeat' (with_reducible first | refine nY ?_ | (refine mX ?_; try simp only [go_sem]) | refine kD ?_ | refine rX ?_ | refine xD ?_ | refine rD ?_ | refine aO ?_ | fail)
       refine ae (k + 1) ?_ ?_ ?_
       ·simp only [go_sem, hT, hTe]; simp
       ·omega
       ·omega
    ·simp only [decide_eq_false_iff_not] at hlev
     have hkK : ¬ k < gN d L := fun h => hlev ((iC d L k).2 h)
     have e : k = gN d L := by omega
     subst e
     repeat' (with_reducible first | refine nY ?_ | (refine mX ?_; try simp only [go_sem]) | refine kD ?_ | refine rX ?_ | refine xD ?_ | refine rD ?_ | refine aO ?_ | fail)
     refine bW (Sees.frz 1 rfl) ?_
     simp only [go_sem]
     exact aa ⟨⟨_, rfl, by simp only [go_sem, e1, e2]; try simp⟩, by simp [aE]⟩
end Go.Proofs.YtddimbdeggomaaaGreat
end
section
set_option maxRecDepth 100000
set_option maxHeartbeats 4000000
namespace Go.Proofs.YtddimbdeggomaaaGreat
open Go Go.Sx Go.RowKit Go.Proofs
theorem Aa (s : TStore) (d : List TDir) (hs : al s ≤ 4300000) (hd : aA d ≤ 4300000) : FnC Tryz.prog 171 [bV s, .o (.d (.sl (d.map ax)))] (.t [(false, [.w 125 2 ((evX s d [] (dirNs d)).1.map ai)]), (false, [.d (iv ((evX s d [] (dirNs d)).2 : Nat))]), (false, [.d (bv (evB s d))])]) := by
 have hd0 : d.length + wsum wDir d ≤ 4300000 := hd
 have hs0 : aj s.fSchema + (s.fFiles.length + wsum wFile s.fFiles) ≤ 4300000 := hs
 refine ent Tryz.func171 rfl Tryz.call171 rfl (fun C => ?_); simp only [go_sem, st0, Tryz.ntmps171]
 have hr : ah [] ≤ 4300000 := by simp [ah, wsum]
 generalize hrr : ([] : List TResult) = r at *
 have hns : (dirNs d).length ≤ 4300000 := by rw [kz]; omega
 have hhas : ∀ i, (hi : i < d.length) → hasS (dirNs d) d[i].fName = true := Dd d
 generalize dirNs d = ns at *
 cases hb : hM d
 ·have e1 : evX s d r ns = ([], 0) := by simp [evX, hb]
  have e2 : evB s d = false := by simp [evB, hb]
  have q0 := @hb; refine cg (da d hd) ?_
  exact aa ⟨⟨_, rfl, by simp only [go_sem, e1, e2, List.map_nil]; simp⟩, by simp [aE]⟩
 cases hst : bf s
 ·have e1 : evX s d r ns = ([], 0) := by simp [evX, hst]
  have e2 : evB s d = false := by simp [evB, hst]
  have q0 := @hb; have q1 := @hst; refine l7 (da d hd) (bR s hs) ?_
  exact aa ⟨⟨_, rfl, by simp only [go_sem, e1, e2, List.map_nil]; simp⟩, by simp [aE]⟩
 obtain ⟨hv, hleast⟩ := iB hb
 have hclo := hleast.clo
 have hvq := fun i (hi : i < d.length) => eo hv i hi
 have h5 := dH hv
 have h12 := eS hst
 have hLl := hclo.len
 obtain ⟨CC, hCC⟩ : ∃ c, s.fFiles.length + ah r = c := ⟨_, rfl⟩
 have hC2 : CC ≤ 4300012 := by omega
 have e1 : evX s d r ns = allE s.fFiles d (resL d) ns CC r (gN d (resL d)) := by simp [evX, hb, hst, hCC]
 have e2 : evB s d = true := by simp [evB, hb, hst]
 have q0 := @hb; have q1 := @hst; refine l7 (da d hd) (bR s hs) ?_
 refine ak (α := Nat) (fun k => [(9, .o (.s 1)), (29, .o .u), (10, oi k)]) (fun k => [(1, .row 125 2 ((cy ns r (d.take k)).map ai) true)]) (fun k => k ≤ d.length) (fun k => d.length - k) 0 (fun _ => ?_) ?_ ?_ (fun k hk => ?_)
 ·simp only [go_sem]
 ·simp only [go_sem]; simp [cy]
 ·simp
 ·simp only [go_sem]
  refine af ?_
  refine cnd rfl (fun h => ?_) (fun h => ?_)
  ·simp only [decide_eq_true_eq, Int.ofNat_lt] at h
   have hsl := lq ns r d k
   have hl1 : (cy ns r (d.take k)).length + 1 ≤ 140737488355328 := by omega
   have hl2 : ((cy ns r (d.take k)).length + 1) * 40 ≤ 140737488355328 := by omega
   have hsu := j8 ns r d k h
   rw [hhas k h] at hsu
   have q0 := @h; have q1 := @hl1; have q2 := @hl2; refine fF ?_
   refine ae (k + 1) ?_ ?_ ?_
   ·simp only [go_sem, hsu, List.map_append]; simp [ai]
   ·omega
   ·omega
  ·simp only [decide_eq_false_iff_not] at h
   have e : k = d.length := by omega
   subst e
   rw [List.take_length]
   generalize hL : resL d = L at *
   refine af ?_
   refine ak (α := Nat) (fun k => [(11, oi ((allE s.fFiles d L ns CC r k).2 : Nat)), (12, oi k)]) (fun k => [(1, .row 125 2 ((allE s.fFiles d L ns CC r k).1.map ai) true)]) (fun k => k ≤ gN d L) (fun k => gN d L - k) 0 (fun _ => ?_) ?_ ?_ (fun k hk => ?_)
   ·simp only [go_sem]
   ·simp only [go_sem]; simp [allE]
   ·simp
   ·simp only [go_sem]
    have q0 := @hL; refine cg (qo d hd (by rw [hL]; omega)) ?_
    refine cnd rfl (fun hlev => ?_) (fun hlev => ?_)
    ·simp only [decide_eq_true_eq] at hlev
     have hkK := (iC d L k).1 hlev
     have hev := jl (fs := s.fFiles) (ns := ns) (r := r) hvq hclo k
     rw [hCC] at hev
     have htop := xk hleast
     have hcnt := mr s.fFiles d L ns CC r k
     have hnm : d.length * CC ≤ 5 * 4300012 := Nat.mul_le_mul h5 hC2
     have hcnt2 : k * (d.length * CC + 1) ≤ 5 * 21500061 := Nat.mul_le_mul (by omega) (by omega)
     have hround : Round s.fFiles d L ns CC k (allE s.fFiles d L ns CC r (k + 1)) ((allE s.fFiles d L ns CC r k).1, (allE s.fFiles d L ns CC r k).2, true) := Round.start hev
     generalize hT : allE s.fFiles d L ns CC r (k + 1) = T at *
     generalize allE s.fFiles d L ns CC r k = X at *
     refine af ?_
     refine ak (α := List TResult × Nat × Bool) (fun x => [(11, oi (x.2.1 : Nat)), (13, ob x.2.2)]) (fun x => [(1, .row 125 2 (x.1.map ai) true)]) (fun x => Round s.fFiles d L ns CC k T (x.1, x.2.1, x.2.2) ∧ x.2.1 ≤ X.2 + dv x.1 + (if x.2.2 then 0 else 1)) (fun x => if x.2.2 then d.length * CC + 1 - dv x.1 else 0) (X.1, X.2, true) (fun _ => ?_) ?_ ?_ (fun x hx => ?_)
     ·simp only [go_sem]
     ·simp only [go_sem]; simp
     ·exact ⟨hround, by simp⟩
     ·obtain ⟨R, c, b⟩ := x
      obtain ⟨hx, hcb⟩ := hx
      simp only at hcb
      simp only [go_sem]
      refine af ?_
      refine cnd rfl (fun hbt => ?_) (fun hbt => ?_)
      ·subst hbt
       have hRe : Ev s.fFiles d L ns CC k R := hx.ev
       have hRt := hRe.tot
       simp only [if_true, Nat.add_zero] at hcb
       have hcI : c ≤ 1000000000 := by omega
       have hpass := hx.pass hvq hclo
       refine af ?_
       refine ak (α := Nat) (fun i => [(13, ob (chB s.fFiles d L ns k i R)), (14, oi i)]) (fun i => [(1, .row 125 2 ((passT s.fFiles d L ns k i R).map ai) true)]) (fun i => i ≤ d.length) (fun i => d.length - i) 0 (fun _ => ?_) ?_ ?_ (fun i hi => ?_)
       ·simp only [go_sem]
       ·simp only [go_sem]; simp [chB, passT]
       ·simp
       ·simp only [go_sem]
        refine af ?_
        refine cnd rfl (fun h => ?_) (fun h => ?_)
        ·simp only [decide_eq_true_eq, Int.ofNat_lt] at h
         have hEv := eI hvq hclo i R (by omega) hRe
         have hcs := d9 hvq hclo i R (by omega) hRe
         have hsu := gP s.fFiles d L ns k i R h
         have hchk : passT s.fFiles d L ns k (i + 1) R = passT s.fFiles d L ns k i R → chB s.fFiles d L ns k (i + 1) R = chB s.fFiles d L ns k i R := qn
         have hchn : dv R < dv (passT s.fFiles d L ns k (i + 1) R) → chB s.fFiles d L ns k (i + 1) R = true := fun hx => by unfold chB; exact decide_eq_true hx
         have hw := hEv.w hv hC2
         obtain ⟨g1, g2⟩ := hEv.get i h
         have hPl := hEv.len
         have hbd := hEv.bd i
         have hwd := aB wDir d h
         have hwq : bb d[i].fQuery ≤ wDir d[i] := by unfold wDir; omega
         have hgrow := fun hin hik hne => hEv.grow h hin hik hne
         have hsame := fun he => kG hEv h he
         generalize passT s.fFiles d L ns k i R = P at *
         generalize hP2 : passT s.fFiles d L ns k (i + 1) R = P2 at *
         have hiP : i < P.length := by omega
         have hiL : i < L.length := by omega
         have hg := hU L i hiL
         have hsl := mD s.fFiles d[i].fQuery P
         by_cases hik : lv L i = k
         ·have hkI : ((lv L i : Nat) : Int) = ((k : Nat) : Int) := by omega
          have hn := hhas i h
          ·rw [if_pos ⟨hik, hn⟩] at hsu
           by_cases he : eJ s.fFiles d[i].fQuery P = bS P i
           ·have hE : eqL du (eJ s.fFiles d[i].fQuery P) (bS P i) = true := by rw [jh]; exact decide_eq_true he
            have hPP : P2 = P := by rw [hsu, hsame he]
            have qH := aI @h (aI @hiP (aI @hiL (aI @hg (aI @hkI (aI @g1 (aI @g2 (aI @hE (aI @hn (aI @decide_true @decide_false))))))))); repeat' (with_reducible first | refine nY ?_ | (refine mX ?_; try simp only [go_sem, qH]) | refine kD ?_ | refine rT [7] [74] ?_ | refine bi (aX ?_) (uX ?_) | refine bI (aX ?_) ?_ | (refine uA ?_; simp only [go_sem, qH]; (repeat' first | omega | refine And.intro ?_ ?_ | refine cP (bQ ns d[i].fName hns) ?_ | (refine mX ?_; simp only [go_sem, qH] <;> fail)); done) | refine rD ?_ | refine cP (bQ ns d[i].fName hns) ?_ | refine vR (f9 s d[i].fQuery P hs (by omega) hw) ?_ | refine vG (f9 s d[i].fQuery P hs (by omega) hw) ?_ | refine vL (gc (eJ s.fFiles d[i].fQuery P) (bS P i) (by omega)) ?_ | refine aO ?_ | fail)
            refine ae (i + 1) ?_ ?_ ?_
            ·simp only [go_sem, hP2, hchk hPP, hPP]; simp
            ·omega
            ·omega
           ·have hE : eqL du (eJ s.fFiles d[i].fQuery P) (bS P i) = false := by rw [jh]; exact decide_eq_false he
            have hlt := hgrow hn hik he
            have hch2 : chB s.fFiles d L ns k (i + 1) R = true := hchn (by
             rw [hsu]
             rcases hcs with e | e
             ·rw [← e]; exact hlt
             ·omega)
            have qH := aI @h (aI @hiP (aI @hiL (aI @hg (aI @hkI (aI @g1 (aI @g2 (aI @hE (aI @hn (aI @decide_true @decide_false))))))))); repeat' (with_reducible first | refine nY ?_ | (refine mX ?_; try simp only [go_sem, qH]) | refine kD ?_ | refine rT [7] [74] ?_ | refine bi (aX ?_) (uX ?_) | refine bI (aX ?_) ?_ | (refine uA ?_; simp only [go_sem, qH]; (repeat' first | omega | refine And.intro ?_ ?_ | refine cP (bQ ns d[i].fName hns) ?_ | (refine mX ?_; simp only [go_sem, qH] <;> fail)); done) | refine rD ?_ | refine cP (bQ ns d[i].fName hns) ?_ | refine vR (f9 s d[i].fQuery P hs (by omega) hw) ?_ | refine vG (f9 s d[i].fQuery P hs (by omega) hw) ?_ | refine vL (gc (eJ s.fFiles d[i].fQuery P) (bS P i) (by omega)) ?_ | refine aO ?_ | fail)
            refine ae (i + 1) ?_ ?_ ?_
            ·simp only [go_sem, hP2, hch2, hsu, ke, ← BF]; simp
            ·omega
            ·omega
         ·rw [if_neg (fun h => hik h.1)] at hsu
          have hkI : ¬ ((lv L i : Nat) : Int) = ((k : Nat) : Int) := by omega
          have q0 := @h; have q1 := @hiP; have q2 := @hiL; have q3 := @hg; have q4 := @hkI; have q5 := @decide_true; have q6 := @decide_false; refine wX ?_
          refine ae (i + 1) ?_ ?_ ?_
          ·simp only [go_sem, hP2, hchk hsu, hsu]; simp
          ·omega
          ·omega
        ·simp only [decide_eq_false_iff_not] at h
         have e : i = d.length := by omega
         subst e
         have hPe := eI hvq hclo d.length R (Nat.le_refl _) hRe
         have hPt := hPe.tot
         refine af ?_
         refine ae (passT s.fFiles d L ns k d.length R, c + 1, chB s.fFiles d L ns k d.length R) ?_ ?_ ?_
         ·simp only [go_sem]; simp
         ·refine ⟨hpass, ?_⟩
          simp only
          have hpc := d9 hvq hclo d.length R (Nat.le_refl _) hRe
          cases hcb2 : chB s.fFiles d L ns k d.length R with
          | false =>
           have h9 : dv R ≤ dv (passT s.fFiles d L ns k d.length R) := by
            rcases hpc with e | e
            ·rw [e]; exact Nat.le_refl _
            ·omega
           simp only [Bool.false_eq_true, if_false]; omega
          | true =>
           have := of_decide_eq_true hcb2
           simp only [if_true]; omega
         ·simp only [if_true]
          cases hcb3 : chB s.fFiles d L ns k d.length R with
          | false => simp only [Bool.false_eq_true, if_false]; omega
          | true =>
           have := of_decide_eq_true hcb3
           simp only [if_true]; omega
      ·subst hbt
       have hTe := hx.fin rfl
       simp only at hTe
       refine af ?_
       refine ae (k + 1) ?_ ?_ ?_
       ·simp only [go_sem, hT, hTe]; simp
       ·omega
       ·omega
    ·simp only [decide_eq_false_iff_not] at hlev
     have hkK : ¬ k < gN d L := fun h => hlev ((iC d L k).2 h)
     have e : k = gN d L := by omega
     subst e
     refine af ?_
     exact aa ⟨⟨_, rfl, by simp only [go_sem, e1, e2]; try simp⟩, by simp [aE]⟩
end Go.Proofs.YtddimbdeggomaaaGreat
end
section
set_option maxRecDepth 100000
set_option maxHeartbeats 4000000
namespace Go.Proofs.YtddimbdeggomaaaGreat
open Go Go.Sx Go.RowKit Go.Proofs
theorem qC (s : TStore) (d : List TDir) (hs : al s ≤ 4300000) (hd : aA d ≤ 4300000) : FnC Tryz.prog 89 [bV s, .o (.d (.sl (d.map ax))), .o (.d (.sl [])), .o (.d (.sl ((dirNs d).map ba)))] (.t [(false, [.w 125 2 ((evX s d [] (dirNs d)).1.map ai)]), (false, [.d (iv ((evX s d [] (dirNs d)).2 : Nat))]), (false, [.d (bv (evB s d))])]) :=
 su s d [] (dirNs d) hs hd (by simp [ah, wsum]) (by rw [kz]; unfold aA at hd; omega)
theorem v7 (s : TStore) (d : List TDir) (hs : al s ≤ 4300000) (hd : aA d ≤ 4300000) : FnC Tryz.prog 102 [bV s, .o (.d (.sl (d.map ax)))] (.t [(false, [.w 125 2 ((evX s d [] (dirNs d)).1.map ai)]), (false, [.d (bv (evB s d))])]) := by
 have hl : d.length ≤ 4300000 := by unfold aA at hd; omega
 refine ent Tryz.func102 rfl Tryz.call102 rfl (fun C => ?_); simp only [go_sem, st0, Tryz.ntmps102]
 have qH := trivial; repeat' (with_reducible first | refine nY ?_ | (refine mX ?_; try simp only [go_sem]) | refine kD ?_ | refine rT [3, 4] [13, 14] ?_ | refine bi (aX ?_) (uX ?_) | refine bI (aX ?_) ?_ | (refine uA ?_; simp only [go_sem]; (repeat' first | omega | refine And.intro ?_ ?_ | refine cP (qC s d hs hd) ?_ | refine cP (jW d hl) ?_ | (refine mX ?_; simp only [go_sem] <;> fail)); done) | refine rD ?_ | refine cP (qC s d hs hd) ?_ | refine cP (jW d hl) ?_ | refine aO ?_ | fail)
 exact aa ⟨⟨_, rfl, by simp only [go_sem]⟩, by simp [aE]⟩
theorem v8 (s : TStore) (d : List TDir) (hs : al s ≤ 4300000) (hd : aA d ≤ 4300000) : FnC Tryz.prog 99 [bV s, .o (.d (.sl (d.map ax)))] (.t [(false, [.w 125 2 ((evX s d [] (dirNs d)).1.map ai)]), (false, [.d (bv (evB s d))])]) := by
 refine ent Tryz.func99 rfl Tryz.call99 rfl (fun C => ?_); simp only [go_sem, st0, Tryz.ntmps99]
 refine cH (Aa s d hs hd) ?_
 exact aa ⟨⟨_, rfl, by simp only [go_sem]⟩, by simp [aE]⟩
theorem BV (s : TStore) (d : List TDir) : ah (evX s d [] (dirNs d)).1 ≤ 95 := by
 unfold evX
 split
 ·rename_i hb
  rw [Bool.and_eq_true] at hb
  obtain ⟨hv, hleast⟩ := iB hb.1
  have h5 := dH hv
  have h12 := eS hb.2
  have hev := jl (fs := s.fFiles) (ns := dirNs d) (r := []) (fun i (hi : i < d.length) => eo hv i hi) hleast.clo (gN d (resL d))
  have h0 : ah [] = 0 := by simp [ah, wsum]
  revert hev
  generalize (allE s.fFiles d (resL d) (dirNs d) (s.fFiles.length + ah []) [] (gN d (resL d))).1 = X
  rw [h0]
  intro hev
  have hlen := hev.len
  have hb2 := jg wResult 18 X fun i hi => by
   obtain ⟨e1, e2⟩ := hev.get i (by omega)
   have h1 := j7 hv i (by omega)
   have h2 := hev.bd i
   unfold wResult
   rw [e1, e2]
   omega
  unfold ah
  have := Nat.mul_le_mul_right 18 h5
  rw [hlen] at hb2 ⊢
  omega
 ·simp [ah, wsum]
theorem DD (s : TStore) (d : List TDir) : ah (evX s d [] (dirNs d)).1 ≤ 4300000 := Nat.le_trans (BV s d) (by decide)
noncomputable def ib (c : TCatalog) : Bool := evB c.fStore c.fDirs && eqL bu (evX c.fStore c.fDirs [] (dirNs c.fDirs)).1 c.fResults
theorem lA (c : TCatalog) (h : wCatalog c ≤ 4300000) : FnC Tryz.prog 115 [aU c] (ob (ib c)) := by
 unfold wCatalog at h
 refine ent Tryz.func115 rfl Tryz.call115 rfl (fun C => ?_); simp only [go_sem, st0, Tryz.ntmps115]
 cases hb : evB c.fStore c.fDirs
 all_goals
  have q0 := @hb; refine uZ (v7 c.fStore c.fDirs (by omega) (by omega)) (kQ (evX c.fStore c.fDirs [] (dirNs c.fDirs)).1 c.fResults (DD _ _)) ?_
  exact aa ⟨⟨_, rfl, by simp only [go_sem, ib, hb, Bool.true_and, Bool.false_and]⟩, trivial⟩
theorem eP (c : TCatalog) (h : wCatalog c ≤ 4300000) : FnC Tryz.prog 110 [aU c] (ob (ib c)) := by
 unfold wCatalog at h
 refine ent Tryz.func110 rfl Tryz.call110 rfl (fun C => ?_); simp only [go_sem, st0, Tryz.ntmps110]
 cases hb : evB c.fStore c.fDirs
 all_goals
  have q0 := @hb; refine uZ (v8 c.fStore c.fDirs (by omega) (by omega)) (kP (evX c.fStore c.fDirs [] (dirNs c.fDirs)).1 c.fResults (DD _ _)) ?_
  exact aa ⟨⟨_, rfl, by simp only [go_sem, ib, hb, Bool.true_and, Bool.false_and]⟩, trivial⟩
end Go.Proofs.YtddimbdeggomaaaGreat
end
section
set_option maxRecDepth 100000
set_option maxHeartbeats 4000000
namespace Go.Proofs.YtddimbdeggomaaaGreat
open Go Go.Sx Go.RowKit Go.Proofs
theorem CS (a b : List TResult) (h : eqL bu a b = true) : a = b := by
 induction a generalizing b with
 | nil => cases b with
  | nil => rfl
  | cons y b => simp [eqL] at h
 | cons x a ih =>
  cases b with
  | nil => simp [eqL] at h
  | cons y b =>
   simp only [eqL, bu, jh, Bool.and_eq_true, decide_eq_true_eq] at h
   obtain ⟨⟨e1, e2⟩, e3⟩ := h
   rw [ih b e3]
   cases x; cases y; simp only at e1 e2; subst e1; subst e2; rfl
theorem E7 {c : TCatalog} (h : ib c = true) : ah c.fResults ≤ 95 := by
 unfold ib at h
 rw [Bool.and_eq_true] at h
 rw [← CS _ _ h.2]
 exact BV _ _
theorem E8 {c : TCatalog} (h : ib c = true) : hM c.fDirs = true := by
 unfold ib evB at h
 simp only [Bool.and_eq_true] at h
 exact h.1.1
theorem Eb (s : TStore) (d : List TDir) (r : List TResult) (ns : List ByteArray) (hr : ah r ≤ 95) : ah (evX s d r ns).1 ≤ 600 := by
 unfold evX
 split
 ·rename_i hb
  rw [Bool.and_eq_true] at hb
  obtain ⟨hv, hleast⟩ := iB hb.1
  have h12 := eS hb.2
  have hev := jl (fs := s.fFiles) (ns := ns) (r := r) (fun i (hi : i < d.length) => eo hv i hi) hleast.clo (gN d (resL d))
  revert hev
  generalize (allE s.fFiles d (resL d) ns (s.fFiles.length + ah r) r (gN d (resL d))).1 = R
  intro hev
  have hlen := hev.len
  have h5 := dH hv
  have hb3 := jg wResult 113 R fun i hi => by
   obtain ⟨e1, e2⟩ := hev.get i (by omega)
   have h1 := j7 hv i (by omega)
   have h2 := hev.bd i
   unfold wResult
   rw [e1, e2]
   omega
  unfold ah
  have : R.length * 113 ≤ 5 * 113 := Nat.mul_le_mul_right _ (by omega)
  omega
 ·simp [ah, wsum]
theorem CT (a b : List TResult) (ha : ah a ≤ 95) (hb : ah b ≤ 600) : fH (cT a b) ≤ 60000 := by
 have h := yn a b
 have h1 : b.length ≤ 600 := by unfold ah at hb; omega
 have h2 : b.length * ah a ≤ 600 * 95 := Nat.mul_le_mul h1 ha
 omega
theorem l8 (s : TStore) (d : List TDir) (r : List TResult) (ns : List ByteArray) (hs : al s ≤ 4300000) (hd : aA d ≤ 4300000) (hr : ah r ≤ 4300000) (hns : ns.length ≤ 4300000) : FnC Tryz.prog 23 [bV s, .o (.d (.sl (d.map ax))), .o (.d (.sl (r.map ai))), .o (.d (.sl (ns.map ba)))] (.t [(false, [.w 125 2 ((evX s d r ns).1.map ai)]), (false, [.d (bv (evB s d))])]) := by
 refine ent Tryz.func23 rfl Tryz.call23 rfl (fun C => ?_); simp only [go_sem, st0, Tryz.ntmps23]
 refine cH (su s d r ns hs hd hr hns) ?_
 exact aa ⟨⟨_, rfl, by simp only [go_sem]⟩, by simp [aE]⟩
theorem Bg (s : TStore) (d : List TDir) (r : List TResult) (ns : List ByteArray) (hr : ah r ≤ 4300000) : ah (evX s d r ns).1 ≤ 67108864 := by
 unfold evX
 split
 ·rename_i hb
  rw [Bool.and_eq_true] at hb
  obtain ⟨hv, hleast⟩ := iB hb.1
  have h12 := eS hb.2
  have hev := jl (fs := s.fFiles) (ns := ns) (r := r) (fun i (hi : i < d.length) => eo hv i hi) hleast.clo (gN d (resL d))
  exact hev.w hv (by omega)
 ·simp [ah, wsum]
noncomputable def chC (c : TCatalog) (s : TStore) (d : List TDir) (ns : List ByteArray) : TCatalog := if evB s d then ⟨s, d, (evX s d c.fResults ns).1⟩ else c
noncomputable def chD (c : TCatalog) (s : TStore) (d : List TDir) (ns : List ByteArray) : List TDiff := if evB s d then cT c.fResults (evX s d c.fResults ns).1 else []
theorem CU (c : TCatalog) (s : TStore) (d : List TDir) (ns : List ByteArray) (hc : wCatalog c ≤ 4300000) (hs : al s ≤ 4300000) (hd : aA d ≤ 4300000) (hns : ns.length ≤ 4300000) : FnC Tryz.prog 117 [aU c, bV s, .o (.d (.sl (d.map ax))), .o (.d (.sl (ns.map ba)))] (.t [(true, (fq (chC c s d ns)).cells), (false, [.w 158 3 ((chD c s d ns).map dF)]), (false, [.d (bv (evB s d))])]) := by
 have hr : ah c.fResults ≤ 4300000 := by unfold wCatalog at hc; omega
 refine ent Tryz.func117 rfl Tryz.call117 rfl (fun C => ?_); simp only [go_sem, st0, Tryz.ntmps117]
 cases hb : evB s d
 ·have e1 : chC c s d ns = c := by simp [chC, hb]
  have e2 : chD c s d ns = [] := by simp [chD, hb]
  have q0 := @hb; refine uZ (l8 s d c.fResults ns hs hd hr hns) (fv c hc) ?_
  exact aa ⟨⟨_, rfl, by simp only [go_sem, e1, e2, List.map_nil]; try simp⟩, by simp [aE]⟩
 ·have e1 : chC c s d ns = ⟨s, d, (evX s d c.fResults ns).1⟩ := by simp [chC, hb]
  have e2 : chD c s d ns = cT c.fResults (evX s d c.fResults ns).1 := by simp [chD, hb]
  have hw := Bg s d c.fResults ns hr
  have qH := @hb; repeat' (with_reducible first | refine nY ?_ | (refine mX ?_; try simp only [go_sem, qH]) | refine kD ?_ | (apply rE [1,3,9,10] [] [0,2,4,6,7,8] [0,2,4,6,7,8] ((.c 1 [] [2,4,6,7,8] (.c 3 [5] [4,5,6,7,8] (.c 9 [] [4,5] (.c 10 [11,12] [11,12] .n .n) .n) .n) .n)) (by simp only [go_sem]; rfl) (by simp only [go_sem]; rfl) (by simp only [go_sem]; rfl) (by decide +kernel); (focus simp only [go_sem]; done)) | exact cJ | refine ca (uX ?_) ?_ | refine cd (aX ?_) ?_ | refine ce (aX ?_) ?_ | exact b9 | exact oH | exact uB | refine rD ?_ | refine cP (l8 s d c.fResults ns hs hd hr hns) ?_ | refine cP (fI s hs) ?_ | refine cP (sr d hd) ?_ | refine vR (l9 c.fResults (evX s d c.fResults ns).1 hr hw) ?_ | refine vG (l9 c.fResults (evX s d c.fResults ns).1 hr hw) ?_ | refine aO ?_ | fail)
  exact aa ⟨⟨_, rfl, by simp only [go_sem, e1, e2]; try simp⟩, by simp [aE]⟩
theorem u9 (c : TCatalog) (s : TStore) (d : List TDir) (ns : List ByteArray) (hc : wCatalog c ≤ 4300000) (hs : al s ≤ 4300000) (hd : aA d ≤ 4300000) (hns : ns.length ≤ 4300000) : FnC Tryz.prog 111 [aU c, bV s, .o (.d (.sl (d.map ax))), .o (.d (.sl (ns.map ba)))] (.t [(true, (aU ⟨s, d, (evX s d c.fResults ns).1⟩).cells), (false, [.w 158 3 ((cT c.fResults (evX s d c.fResults ns).1).map dF)])]) := by
 have hr : ah c.fResults ≤ 4300000 := by unfold wCatalog at hc; omega
 have hw := Bg s d c.fResults ns hr
 refine ent Tryz.func111 rfl Tryz.call111 rfl (fun C => ?_); simp only [go_sem, st0, Tryz.ntmps111]
 have qH := trivial; repeat' (with_reducible first | refine nY ?_ | (refine mX ?_; try simp only [go_sem]) | refine kD ?_ | (apply rE [7,8] [] [0,1,2,3,4,5,6] [0,1,2,3,4,5,6] ((.c 7 [] [0,1,2,3] (.c 8 [9] [9] .n .n) .n)) (by simp only [go_sem]; rfl) (by simp only [go_sem]; rfl) (by simp only [go_sem]; rfl) (by decide +kernel); (focus simp only [go_sem]; done)) | exact cJ | refine ca (uX ?_) ?_ | refine cd (aX ?_) ?_ | refine ce (aX ?_) ?_ | exact b9 | exact oH | (refine uA ?_; simp only [go_sem]; (repeat' first | omega | refine And.intro ?_ ?_); done) | refine rD ?_ | refine cP (vu s d c.fResults ns hs hd hr hns) ?_ | refine cP (tw c.fResults (evX s d c.fResults ns).1 hr hw) ?_ | refine aO ?_ | fail)
 exact aa ⟨⟨_, rfl, by simp only [go_sem]⟩, by simp [aE]⟩
theorem dl (c : TCatalog) (h : wCatalog c ≤ 4300000) : FnC Tryz.prog 108 [aU c] (aU c) := (BE c h).pu (by simp only [go_sem, and_self])
theorem tv (c : TCatalog) (s : TStore) (d : List TDir) (ns : List ByteArray) (hc : wCatalog c ≤ 4300000) (hs : al s ≤ 4300000) (hd : aA d ≤ 4300000) (hns : ns.length ≤ 4300000) : FnC Tryz.prog 111 [aU c, bV s, .o (.d (.sl (d.map ax))), .o (.d (.sl (ns.map ba)))] (.t [(true, (aU ⟨s, d, (evX s d c.fResults ns).1⟩).cells), (false, [.d (.sl ((cT c.fResults (evX s d c.fResults ns).1).map dF))])]) := (u9 c s d ns hc hs hd hns).pu (by simp only [go_sem, and_self])
noncomputable def goC (b : Bool) (c : TCatalog) (s : TStore) (d : List TDir) (ns : List ByteArray) : TCatalog := if b then ⟨s, d, (evX s d c.fResults ns).1⟩ else c
noncomputable def goD (b : Bool) (c : TCatalog) (s : TStore) (d : List TDir) (ns : List ByteArray) : List TDiff := if b then cT c.fResults (evX s d c.fResults ns).1 else []
theorem pH (c : TCatalog) (s : TStore) (d : List TDir) (ns : List ByteArray) : goC false c s d ns = c := rfl
theorem pI (c : TCatalog) (s : TStore) (d : List TDir) (ns : List ByteArray) : goD false c s d ns = [] := rfl
theorem yh (c : TCatalog) (s : TStore) (d : List TDir) (ns : List ByteArray) : goC true c s d ns = ⟨s, d, (evX s d c.fResults ns).1⟩ := rfl
theorem yj (c : TCatalog) (s : TStore) (d : List TDir) (ns : List ByteArray) : goD true c s d ns = cT c.fResults (evX s d c.fResults ns).1 := rfl
theorem CV (c : TCatalog) (s : TStore) (d : List TDir) (ns : List ByteArray) (hev : evB s d = true) (hc : wCatalog c ≤ 4300000) (hs : al s ≤ 4300000) (hd : aA d ≤ 4300000) (hns : ns.length ≤ 4300000) : FnC Tryz.prog 117 [aU c, bV s, .o (.d (.sl (d.map ax))), .o (.d (.sl (ns.map ba)))] (.t [(true, (fq (goC true c s d ns)).cells), (false, [.w 158 3 ((goD true c s d ns).map dF)]), (false, [.d (bv true)])]) := by
 have h := CU c s d ns hc hs hd hns
 unfold chC chD at h
 rw [hev] at h
 exact h
theorem FQ (b : Bool) (c : TCatalog) (s : TStore) (d : List TDir) (ns : List ByteArray) (hb : b = true → ib c = true) (hs : al s ≤ 8600000) (hd : aA d ≤ 8600000) (hc : wCatalog c ≤ 4300000) : al (goC b c s d ns).fStore ≤ 8600000 ∧ aA (goC b c s d ns).fDirs ≤ 8600000 ∧ ah (goC b c s d ns).fResults ≤ 8600000 ∧ fH (goD b c s d ns) ≤ 8600000 := by
 have h0 : wCatalog c = al c.fStore + aA c.fDirs + ah c.fResults := rfl
 cases b
 ·simp only [pH, pI]
  exact ⟨by omega, by omega, by omega, by simp [fH, wsum]⟩
 ·simp only [yh, yj]
  have hr := E7 (hb rfl)
  have hx := Eb s d c.fResults ns hr
  have hd2 := CT c.fResults (evX s d c.fResults ns).1 hr hx
  exact ⟨hs, hd, by omega, by omega⟩
end Go.Proofs.YtddimbdeggomaaaGreat
end
