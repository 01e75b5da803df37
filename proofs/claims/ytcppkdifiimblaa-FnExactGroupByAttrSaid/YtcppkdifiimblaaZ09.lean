/- Joined texts. -/
import Derived.Test.YtcppkdifiimblaaZ07
import Derived.Test.YtcppkdifiimblaaZ06
import Derived.Test.YtcppkdifiimblaaZ08
import Derived.Test.YtcppkdifiimblaaZ04
import Derived.Sort.LotA
import Derived.Sort.WalkA
import Derived.Test.YtcppkdifiimblaaZ03
import Derived.Laws.IdiomCopy
import Derived.Deep.AppendSrc
import Derived.Shelf.RegionOpenPlain
import Derived.WalkKit
import Derived.Lib.Walk
import Derived.Lib.SliceRun
import Derived.Lib.JoinLaws
import Derived.Lib.AppendZeros
import Derived.Lib.AppendZerosOnto
import Derived.Lib.Overlaps
import Derived.Laws.Externs
import Derived.Laws.NewBlocks
import Derived.Shelf.Spec.SlicesInsertGrow
import Derived.Sort.LotD2
set_option linter.all false
section
set_option maxRecDepth 100000
set_option maxHeartbeats 4000000
namespace Go.Proofs.Ytcppkdifiimblaa
open Go Go.Sx Go.RowKit Go.Proofs
theorem gP (n : Int) : FnC Try.prog 60 [oi n] (ob false) := by
 refine ent Try.func60 rfl Try.call60 rfl (fun C => ?_); simp only [go_sem, st0, Try.ntmps60]
 have q0 := @decide_true; refine iM ?_
 exact aA ⟨⟨_, rfl, by simp only [go_sem, decide_true]⟩, trivial⟩
theorem mV (n : ByteArray) : FnC Try.prog 61 [os n] (ob false) := by
 refine ent Try.func61 rfl Try.call61 rfl (fun C => ?_); simp only [go_sem, st0, Try.ntmps61]
 have q0 := @decide_true; refine iM ?_
 exact aA ⟨⟨_, rfl, by simp only [go_sem, decide_true]⟩, trivial⟩
def cmpI (a b : Int) : Int := c3 (decide (a < b)) (decide (b < a)) 0
def cmpS (a b : ByteArray) : Int := c3 (dH a b) (dH b a) 0
theorem rV (a b : Int) : FnC Try.prog 47 [oi a, oi b] (oi (cmpI a b)) := by
 refine ent Try.func47 rfl Try.call47 rfl (fun C => ?_); simp only [go_sem, st0, Try.ntmps47]
 by_cases h1 : a < b
 ·have e : cmpI a b = -1 := by simp [cmpI, c3, h1]
  have q0 := @h1; have q1 := @decide_true; refine a8I (gP a) (gP b) ?_
  exact aA ⟨⟨_, rfl, by simp only [go_sem, e]⟩, trivial⟩
 ·by_cases h2 : b < a
  ·have e : cmpI a b = 1 := by simp [cmpI, c3, h1, h2]
   have q0 := @h1; have q1 := @h2; have q2 := @decide_true; have q3 := @decide_false; refine a4s (gP a) (gP b) ?_
   exact aA ⟨⟨_, rfl, by simp only [go_sem, e]⟩, trivial⟩
  ·have e : cmpI a b = 0 := by simp [cmpI, c3, h1, h2]
   have q0 := @h1; have q1 := @h2; have q2 := @decide_false; refine a8J (gP a) (gP b) ?_
   exact aA ⟨⟨_, rfl, by simp only [go_sem, e]⟩, trivial⟩
theorem a0S {a b : ByteArray} (h : dH a b = false) : dH b a = !decide (a = b) := by
 by_cases e : a = b
 ·subst e; simp [h]
 ·simp only [e, decide_false, Bool.not_false]
  exact (mU _ _).2 (a2G (fun k => by rw [(mU _ _).2 k] at h; cases h) e)
theorem a0T (a b : ByteArray) : FnC Try.prog 48 [os a, os b] (oi (cmpS a b)) := by
 refine ent Try.func48 rfl Try.call48 rfl (fun C => ?_); simp only [go_sem, st0, Try.ntmps48]
 cases h1 : dH a b with
 | true =>
  have e : cmpS a b = -1 := by simp [cmpS, c3, h1]
  have q0 := @h1; refine a6N (mV a) (mV b) ?_
  exact aA ⟨⟨_, rfl, by simp only [go_sem, e]⟩, trivial⟩
 | false =>
  have e : cmpS a b = if (!decide (a = b)) = true then 1 else 0 := by rw [← a0S h1]; cases h3 : dH b a <;> simp [cmpS, c3, h1, h3]
  have q0 := @h1; refine a6N (mV a) (mV b) ?_
  refine cnd rfl (fun h3 => ?_) (fun h3 => ?_)
  ·rw [if_pos h3] at e
   refine aL ?_
   exact aA ⟨⟨_, rfl, by simp only [go_sem, e]⟩, trivial⟩
  ·rw [if_neg (by rw [h3]; simp)] at e
   refine aL ?_
   exact aA ⟨⟨_, rfl, by simp only [go_sem, e]⟩, trivial⟩
def orI : List Int → Int
 | [] => 0
 | x :: xs => if x = 0 then orI xs else x
theorem a7j (l : List Int) (hl : l.length ≤ 1000) : FnC Try.prog 46 [.o (.d (.sl (l.map fJ)))] (oi (orI l)) := by
 generalize hg : orI l = res
 refine ent Try.func46 rfl Try.call46 rfl (fun C => ?_); simp only [go_sem, st0, Try.ntmps46]
 refine aL ?_
 refine bE (α := Nat) (fun k => [(8, oi k)]) (fun _ => []) (fun k => k ≤ l.length ∧ orI (l.drop k) = res) (fun k => l.length - k) 0 (fun _ => ?_) ?_ ?_ (fun k hk => ?_)
 ·simp only [go_sem]
 ·simp only [go_sem]; simp
 ·simp [hg]
 ·obtain ⟨hk, hq⟩ := hk
  simp only [go_sem]
  refine aL ?_
  refine cnd rfl (fun h => ?_) (fun h => ?_)
  ·simp only [decide_eq_true_eq, Int.ofNat_lt] at h
   rw [List.drop_eq_getElem_cons h, orI] at hq
   by_cases h1 : l[k] = 0
   ·rw [if_pos h1] at hq
    have q0 := @h; have q1 := @h1; have q2 := @decide_true; refine a1C ?_
    refine aQ (k + 1) ?_ ?_ ?_
    ·simp only [go_sem]; simp
    ·exact ⟨h, hq⟩
    ·omega
   ·rw [if_neg h1] at hq
    have q0 := @h; have q1 := @h1; have q2 := @decide_false; refine a1C ?_
    exact aA ⟨⟨_, rfl, by simp only [go_sem, hq]⟩, trivial⟩
  ·simp only [decide_eq_false_iff_not] at h
   have e : k = l.length := by omega
   subst e
   simp only [List.drop_length, orI] at hq
   subst hq
   refine aL ?_
   exact aA ⟨⟨_, rfl, by simp only [go_sem]⟩, trivial⟩
theorem a6d (a b : TValue) : orI [cmpI a.fKind b.fKind, cmpI a.fInt b.fInt, cmpS a.fStr b.fStr] = cmpV a b := by
 simp only [orI, cmpV, cmpI, cmpS, c3]
 by_cases h1 : a.fKind < b.fKind
 ·simp [h1]
 ·by_cases h2 : b.fKind < a.fKind
  ·simp [h1, h2]
  ·by_cases h3 : a.fInt < b.fInt
   ·simp [h1, h2, h3]
   ·by_cases h4 : b.fInt < a.fInt
    ·simp [h1, h2, h3, h4]
    ·simp only [h1, h2, h3, h4, decide_false, Bool.false_eq_true, if_false, if_true]
     by_cases h5 : dH a.fStr b.fStr = true <;> by_cases h6 : dH b.fStr a.fStr = true <;> simp [h5, h6]
theorem vT (a b : TValue) : FnC Try.prog 29 [iG a, iG b] (oi (cmpV a b)) := by
 have hO := a7j [cmpI a.fKind b.fKind, cmpI a.fInt b.fInt, cmpS a.fStr b.fStr] (by simp)
 rw [a6d] at hO
 simp only [List.map_cons, List.map_nil, fJ] at hO
 have h1 := rV a.fKind b.fKind
 have h2 := rV a.fInt b.fInt
 have h3 := a0T a.fStr b.fStr
 generalize cmpI a.fKind b.fKind = k1 at hO h1
 generalize cmpI a.fInt b.fInt = k2 at hO h2
 generalize cmpS a.fStr b.fStr = k3 at hO h3
 generalize cmpV a b = k4 at hO
 refine ent Try.func29 rfl Try.call29 rfl (fun C => ?_); simp only [go_sem, st0, Try.ntmps29]
 have qH := trivial; repeat' (with_reducible first | refine nY ?_ | (refine mX ?_; try simp only [go_sem]) | refine kD ?_ | (apply rE [4,9,14,15,16] [] [0,1,2,3,5,6,7,8,10,11,12,13] [0,1,2,3,5,6,7,8,10,11,12,13] ((.c 4 [] [5,6,7,8,10,11,12,13] (.c 9 [] [10,11,12,13] (.c 14 [] [] (.c 15 [] [] (.c 16 [17] [17] .n .n) .n) .n) .n) .n)) (by simp only [go_sem]; rfl) (by simp only [go_sem]; rfl) (by simp only [go_sem]; rfl) (by decide +kernel); (focus simp only [go_sem]; done)) | exact fU | refine dZ (uX ?_) ?_ | refine eB (aX ?_) ?_ | refine eD (aX ?_) ?_ | exact gJ | exact oH | (refine uA ?_; simp only [go_sem]; (repeat' first | omega | refine And.intro ?_ ?_); done) | refine rD ?_ | refine cP h1 ?_ | refine cP h2 ?_ | refine cP h3 ?_ | refine cP hO ?_ | refine aO ?_ | fail)
 exact aA ⟨⟨_, rfl, by simp only [go_sem]⟩, trivial⟩
theorem vU (a b : TValue) : FnC Try.prog 20 [iG a, iG b] (oi (cmpV a b)) := by
 refine ent Try.func20 rfl Try.call20 rfl (fun C => ?_); simp only [go_sem, st0, Try.ntmps20]
 by_cases h1 : a.fKind < b.fKind
 ·have e : cmpV a b = -1 := by simp [cmpV, c3, h1]
  have q0 := @h1; have q1 := @decide_true; refine jD ?_
  exact aA ⟨⟨_, rfl, by simp only [go_sem, e]⟩, trivial⟩
 by_cases h2 : b.fKind < a.fKind
 ·have e : cmpV a b = 1 := by simp [cmpV, c3, h1, h2]
  have q0 := @h1; have q1 := @h2; have q2 := @decide_true; have q3 := @decide_false; refine a6O ?_
  exact aA ⟨⟨_, rfl, by simp only [go_sem, e]⟩, trivial⟩
 by_cases h3 : a.fInt < b.fInt
 ·have e : cmpV a b = -1 := by simp [cmpV, c3, h1, h2, h3]
  have q0 := @h1; have q1 := @h2; have q2 := @h3; have q3 := @decide_true; have q4 := @decide_false; refine a8L ?_
  exact aA ⟨⟨_, rfl, by simp only [go_sem, e]⟩, trivial⟩
 by_cases h4 : b.fInt < a.fInt
 ·have e : cmpV a b = 1 := by simp [cmpV, c3, h1, h2, h3, h4]
  have q0 := @h1; have q1 := @h2; have q2 := @h3; have q3 := @h4; have q4 := @decide_true; have q5 := @decide_false; refine a6P ?_
  exact aA ⟨⟨_, rfl, by simp only [go_sem, e]⟩, trivial⟩
 cases h5 : dH a.fStr b.fStr with
 | true =>
  have e : cmpV a b = -1 := by simp [cmpV, c3, h1, h2, h3, h4, h5]
  have q0 := @h1; have q1 := @h2; have q2 := @h3; have q3 := @h4; have q4 := @h5; have q5 := @decide_false; refine a6P ?_
  exact aA ⟨⟨_, rfl, by simp only [go_sem, e]⟩, trivial⟩
 | false =>
  have e : cmpV a b = if (!decide (a.fStr = b.fStr)) = true then 1 else 0 := by rw [← a0S h5]; cases h7 : dH b.fStr a.fStr <;> simp [cmpV, c3, h1, h2, h3, h4, h5, h7]
  have q0 := @h1; have q1 := @h2; have q2 := @h3; have q3 := @h4; have q4 := @h5; have q5 := @decide_false; refine a6P ?_
  refine cnd rfl (fun h7 => ?_) (fun h7 => ?_)
  ·rw [if_pos h7] at e
   refine aL ?_
   exact aA ⟨⟨_, rfl, by simp only [go_sem, e]⟩, trivial⟩
  ·rw [if_neg (by rw [h7]; simp)] at e
   refine aL ?_
   exact aA ⟨⟨_, rfl, by simp only [go_sem, e]⟩, trivial⟩
end Go.Proofs.Ytcppkdifiimblaa
end
section
set_option maxRecDepth 100000
set_option maxHeartbeats 4000000
namespace Go.Proofs.Ytcppkdifiimblaa
def xS (x v : TValue) : Bool := decide (x.fKind = v.fKind) && (decide (x.fInt = v.fInt) && decide (x.fStr = v.fStr))
def a8m (l : List Int) (i : Int) : Bool := l.any fun x => decide (x = i)
def a1X (s : ByteArray) : List TResult → List Int
 | [] => []
 | x :: r => if x.fName = s then x.fIDs else a1X s r
def a8n (v : TValue) (n : Int) : Bool := decide (v.fKind = 1) && decide (v.fInt < n)
def mt (q : List TNode) (f : TFile) (r : List TResult) : Nat → Nat → Bool
 | 0, _ => false
 | k + 1, i => match q[i]? with
  | none => false
  | some n =>
   if n.fOp = 1 then true
   else if n.fOp = 2 then !decide ((getAttr n.fName f.fAttrs).fKind = 0)
   else if n.fOp = 3 then xS (getAttr n.fName f.fAttrs) n.fValue
   else if n.fOp = 4 then a8n (getAttr n.fName f.fAttrs) n.fValue.fInt
   else if n.fOp = 5 then !mt q f r k n.fLeft.toNat
   else if n.fOp = 6 then mt q f r k n.fLeft.toNat && mt q f r k n.fRight.toNat
   else if n.fOp = 7 then mt q f r k n.fLeft.toNat || mt q f r k n.fRight.toNat
   else if n.fOp = 8 then a8m (a1X n.fName r) f.fID
   else !decide (f.fLink = 0) && a8m (a1X n.fName r) f.fLink
end Go.Proofs.Ytcppkdifiimblaa
end
section
set_option maxRecDepth 100000
set_option maxHeartbeats 4000000
namespace Go.Proofs.Ytcppkdifiimblaa
open Go Go.Sx Go.RowKit Go.Proofs
abbrev aB := TGroup × Value
@[go_sem] def fO (p : aB) : List D := [iv p.1.fValue.fKind, iv p.1.fValue.fInt, sv p.1.fValue.fStr, .v p.2]
@[go_sem] def gO (p : aB) : SV := .g [.d (iv p.1.fValue.fKind), .d (iv p.1.fValue.fInt), .d (sv p.1.fValue.fStr), .d (.v p.2)]
def lV (p : aB) : Value × List (List Value) := (p.2, p.1.fIDs.map fun i => [Value.int .i64 i])
def itO (p : aB) : List Value × Value × List (List Value) := ([.int .i64 p.1.fValue.fKind, .int .i64 p.1.fValue.fInt, .string p.1.fValue.fStr], p.2, p.1.fIDs.map fun i => [Value.int .i64 i])
theorem a2F (p : aB) : jC (itO p) = dC p.1 := by
 simp only [jC, itO, dC, List.map_map, List.map_cons, List.map_nil, List.cons_append, List.nil_append]
 congr 4
def bV (s : TStore) (ids : List Int) (name : ByteArray) : List (TValue × Int) := ids.map fun id => (getAttr name (fI id s.fFiles).fAttrs, id)
def iI (v : TValue) (p : aB) : Bool := xS p.1.fValue v
theorem jP (a b : TValue) : xS a b = true ↔ a = b := by
 unfold xS
 simp only [Bool.and_eq_true, decide_eq_true_eq]
 constructor
 ·rintro ⟨h1, h2, h3⟩; exact zG h1 h2 h3
 ·rintro rfl; exact ⟨rfl, rfl, rfl⟩
theorem a0L (v : TValue) (id : Int) (z' : Value) : ∀ {its : List aB} {k : Nat} (hk : k < its.length), iI v its[k] = true → (∀ j (hj : j < its.length), j < k → iI v its[j] = false) →
    fV (its.map (·.1)) (v, id) = (its.set k (⟨its[k].1.fValue, its[k].1.fIDs ++ [id]⟩, z')).map (·.1)
 | [], k, hk, _, _ => by simp at hk
 | p :: its, 0, hk, h1, _ => by
  have e := (jP _ _).1 h1
  simp only [List.getElem_cons_zero] at e
  simp [fV, e]
 | p :: its, k + 1, hk, h1, h2 => by
  have h0 := h2 0 (by simp) (by omega)
  simp only [List.getElem_cons_zero] at h0
  have hne : p.1.fValue ≠ v := fun e => by rw [iI, (jP _ _).2 e] at h0; cases h0
  simp only [List.map_cons, fV, if_neg hne, List.set_cons_succ, List.getElem_cons_succ]
  have h2' : ∀ j (hj : j < its.length), j < k → iI v its[j] = false := fun j hj hjk => by
   have := h2 (j + 1) (by simp; omega) (by omega)
   rwa [List.getElem_cons_succ] at this
  rw [a0L v id z' (by simpa using hk) (by rwa [List.getElem_cons_succ] at h1) h2']
theorem a0M (v : TValue) (id : Int) : ∀ {its : List aB}, (∀ p ∈ its, iI v p = false) → fV (its.map (·.1)) (v, id) = its.map (·.1) ++ [⟨v, [id]⟩]
 | [], _ => rfl
 | p :: its, h => by
  have h0 := h p List.mem_cons_self
  have hne : p.1.fValue ≠ v := fun e => by rw [iI, (jP _ _).2 e] at h0; cases h0
  simp only [List.map_cons, fV, if_neg hne, List.cons_append]
  rw [a0M v id fun q hq => h q (List.mem_cons_of_mem _ hq)]
theorem a0N (x : TValue × Int) : ∀ l : List TGroup, wsum (fun g => g.fIDs.length) (fV l x) = wsum (fun g => g.fIDs.length) l + 1 ∧ (fV l x).length ≤ l.length + 1
 | [] => by simp [fV, wsum]
 | g :: l => by
  have ih := a0N x l
  unfold fV
  split
  ·simp [wsum]; omega
  ·simp [wsum]; omega
theorem a0O (xs : List (TValue × Int)) : ∀ l : List TGroup, wsum (fun g => g.fIDs.length) (xs.foldl fV l) = wsum (fun g => g.fIDs.length) l + xs.length ∧ (xs.foldl fV l).length ≤ l.length + xs.length := by
 induction xs with
 | nil => intro l; simp
 | cons x xs ih =>
  intro l
  have h1 := a0N x l
  have h2 := ih (fV l x)
  simp only [List.foldl_cons, List.length_cons]
  omega
end Go.Proofs.Ytcppkdifiimblaa
end
section
set_option maxRecDepth 100000
set_option maxHeartbeats 4000000
namespace Go.Proofs.Ytcppkdifiimblaa
open Go Go.Sx Go.RowKit Go.Proofs Go.Sort
instance inhO : Inhabited aB := ⟨(⟨⟨0, 0, ⟨#[]⟩⟩, []⟩, .slice none 0 0)⟩
theorem a3v {f ty sz : Nat} {fn : Func} {c : Code} {rows rows' : List (List D)} {args : List SV} (hf : Try.prog.funcs[f]? = some fn) (hb : fn.body = some c) (hcall : ∀ x w, (callFunc f x).run Try.prog w = .ok (.enter f x) w) (hres : fn.results = #[])
    (hfl : eO rows = true) (hfl' : eO rows' = true) (hlen : rows'.length = rows.length) (h0 : rows = [] → FnC Try.prog f (.o (.d (.sl [])) :: args) (.t []))
    (h : rows ≠ [] → ∀ (C : Ctx) (y : Value), WP Try.prog C c (aS Try.prog C [] (a4q ty sz rows' y)) (stI ty sz rows y args fn.ntmps)) : FnI Try.prog f ty sz rows args true rows' := FnI.of_wp (eqk := eqk) ttOK hf hb hcall hres hfl hfl' hlen h0 h
attribute [go_sem] stI
def aP (d : Array aB) : List (List D) := d.toList.map fO
theorem bA (d : Array aB) : eO (aP d) = true := by
 unfold eO aP
 simp [fO, isV]
theorem bG (d : Array aB) : (aP d).length = d.size := by simp [aP]
theorem eF {d : Array aB} (h : aP d = []) : d.size = 0 := by rw [← bG, h]; rfl
theorem bO (d : Array aB) (i : Nat) (h : i < d.toList.length) : d.toList[i] = d[i]! := by
 rw [getElem!_pos d i (by simpa using h)]; rfl
theorem mR (d : Array aB) (i j : Nat) (hi : i < d.toList.length) (hj : j < d.toList.length) : ((d.toList.map fO).set i (fO d.toList[j])).set j (fO d.toList[i]) = aP (swp d i j) := by
 unfold aP swp
 rw [Array.toList_setIfInBounds, Array.toList_setIfInBounds, List.map_set, List.map_set, bO d i hi, bO d j hj]
theorem tK (L : List (List D)) {i j : Nat} (h : i ≠ j) (r : List D) : bS (L.set i r) j = bS L j := by
 simp only [bS, List.getD_eq_getElem?_getD, List.getElem?_set_ne h]
def ltO (a b : aB) : Bool := decide (cmpV a.1.fValue b.1.fValue < 0)
theorem tL (p q : aB) : FnC Try.prog 28 [gO p, gO q] (oi (cmpV p.1.fValue q.1.fValue)) := by
 refine ent Try.func28 rfl Try.call28 rfl (fun C => ?_); simp only [go_sem, st0, Try.ntmps28]
 refine yY (vT p.1.fValue q.1.fValue) ?_
 exact aA ⟨⟨_, rfl, by simp only [go_sem]⟩, trivial⟩
theorem nI (a : Nat) : ∀ (j : Nat) (d : Array aB), (insInner ltO a j d).size = d.size
 | 0, d => rfl
 | j + 1, d => by
  unfold insInner
  split
  ·rw [nI a j, swp_size]
  ·rfl
theorem pY (a b : Nat) : ∀ (n i : Nat) (d : Array aB), b - i = n → (insOuter ltO a b i d).size = d.size
 | 0, i, d, h => by rw [insOuter_stop _ _ _ _ _ (by omega)]
 | n + 1, i, d, h => by rw [insOuter_go _ _ _ _ _ (by omega), pY a b n (i + 1) _ (by omega), nI]
theorem rO : FnC Try.prog 58 [.o (.d (.sl [])), oi 0, oi 0, .o (.f 28 [])] (.t []) := by
 refine ent Try.func58 rfl Try.call58 rfl (fun C => ?_); simp only [go_sem, st0, Try.ntmps58]
 refine aL ?_
 refine bE (α := Unit) (fun _ => [(8, oi 1)]) (fun _ => []) (fun _ => True) (fun _ => 0) () (fun _ => ?_) ?_ trivial (fun _ _ => ?_)
 ·simp only [go_sem]
 ·simp only [go_sem]; simp
 ·simp only [go_sem]
  refine aL ?_
  exact kZ ⟨⟨_, rfl, by simp only [go_sem]⟩, by simp [jS]⟩
theorem iH (d : Array aB) (a b : Nat) (hab : a ≤ b) (hb : b ≤ d.size) (hsz : d.size ≤ 1048576) :
    FnI Try.prog 58 55 4 (aP d) [oi a, oi b, .o (.f 28 [])] true (aP (Sort.insertionSort ltO d a b)) := by
 refine a3v Try.func58 rfl Try.call58 rfl (bA d) (bA _) (by rw [bG, bG]; exact pY a b _ _ d rfl) (fun h0 => ?_) (fun hne C y => ?_)
 ·have h1 := eF h0
  have ha : a = 0 := by omega
  have hb' : b = 0 := by omega
  subst ha hb'
  exact rO
 ·simp only [go_sem, Try.ntmps58]
  refine aL ?_
  refine bE (α := Nat × Array aB) (fun x => [(8, oi x.1)]) (fun x => [(0, .row 55 4 (aP x.2) true)]) (fun x => a < x.1 ∧ x.1 ≤ b + 1 ∧ x.2.size = d.size ∧ insOuter ltO a b x.1 x.2 = insOuter ltO a b (a + 1) d) (fun x => b + 1 - x.1) (a + 1, d) (fun _ => ?_) ?_ ?_ (fun x hx => ?_)
  ·simp only [go_sem]
  ·simp only [go_sem]; simp
  ·exact ⟨by simp, by simp only; omega, rfl, rfl⟩
  ·obtain ⟨i, dk⟩ := x
   obtain ⟨h1, h2, h3, h4⟩ := hx
   simp only at h1 h2 h3 h4
   simp only [go_sem]
   by_cases hlt : i < b
   ·have hlt' : ((i : Int) < (b : Int)) = True := by simp [hlt]
    have q0 := @hlt'; have q1 := @decide_true; refine jD ?_
    refine bE (α := Nat × Array aB) (fun x => [(9, oi x.1)]) (fun x => [(0, .row 55 4 (aP x.2) true)]) (fun x => a ≤ x.1 ∧ x.1 ≤ i ∧ x.2.size = d.size ∧ insInner ltO a x.1 x.2 = insInner ltO a i dk) (fun x => x.1) (i, dk) (fun _ => ?_) ?_ ?_ (fun x hx => ?_)
    ·simp only [go_sem]
    ·simp only [go_sem]; simp
    ·exact ⟨by simp only; omega, by simp, h3, rfl⟩
    ·obtain ⟨j, dj⟩ := x
     obtain ⟨k1, k2, k3, k4⟩ := hx
     simp only at k1 k2 k3 k4
     simp only [go_sem]
     by_cases hja : a < j
     ·obtain ⟨jp, rfl⟩ : ∃ jp, j = jp + 1 := ⟨j - 1, by omega⟩
      have hg : ((a : Int) < ((jp + 1 : Nat) : Int)) = True := by simp; omega
      have he : ((jp + 1 : Nat) : Int) - 1 = (jp : Int) := by omega
      have l1 : jp + 1 < dj.toList.length := by simp; omega
      have l0 : jp < dj.toList.length := by omega
      have hc := tL dj.toList[jp + 1] dj.toList[jp]
      simp only [aP]
      have qH := aI @hg (aI @he (aI @l1 (aI @l0 @decide_true))); repeat' (with_reducible first | refine nY ?_ | (refine mX ?_; try simp only [go_sem, qH]) | refine kD ?_ | refine rT [16] [] ?_ | refine iW (aX ?_) (uX ?_) | refine lQ (aX ?_) ?_ | (refine uA ?_; simp only [go_sem, qH]; (repeat' first | omega | refine And.intro ?_ ?_ | refine cP hc ?_ | (refine mX ?_; simp only [go_sem, qH] <;> fail)); done) | refine rD ?_ | refine cP hc ?_ | refine aO ?_ | fail)
      refine cnd (b := ltO dj.toList[jp + 1] dj.toList[jp]) rfl (fun h5 => ?_) (fun h5 => ?_)
      ·have hsw := mR dj (jp + 1) jp l1 l0
       simp only [fO] at hsw
       have hrw : ∀ (L : List (List D)) (r : List D), bS (L.set (jp + 1) r) jp = bS L jp := fun L r => tK L (by omega) r
       repeat' (with_reducible first | refine nY ?_ | (refine mX ?_; try simp only [go_sem, hg, he, l1, l0, decide_true, List.length_set, hrw]) | refine kO ?_ (by decide) | (apply rE [15,17] [] [0,1,2,3,4,5,6,7,8,9,10,11,12,13,14] [0,1,2,3,4,5,6,7,8,9,10,11,12,13,14] ((.c 15 [16] [2,3,4,16] (.c 17 [] [] .n .n) .n)) (by simp only [go_sem]; rfl) (by simp only [go_sem]; rfl) (by simp only [go_sem]; rfl) (by decide +kernel); (focus simp only [go_sem]; done)) | exact fU | (refine dZ (uX ?_) ?_) | refine eB (aX ?_) ?_ | refine eD (aX ?_) ?_ | exact gJ | (refine oG ?_; (focus simp only [go_sem]; done)) | (refine uA ?_; simp only [go_sem, hg, he, l1, l0, decide_true, List.length_set, hrw]; (repeat' first | omega | refine And.intro ?_ ?_); done) | refine regd (by kernel_rfl) ?_ | (refine And.intro ?_ ?_; focus omega))
       refine aQ (jp, swp dj (jp + 1) jp) ?_ ?_ ?_
       ·simp only [go_sem]; simp
        exact hsw
       ·refine ⟨by simp only; omega, by simp only; omega, by rw [swp_size]; exact k3, ?_⟩
        simp only
        rw [← k4, insInner_go ltO a (jp + 1) dj hja (by rw [bO, bO] at h5; exact h5)]
        rfl
       ·simp only; omega
      ·refine aL ?_
       refine aQ (i + 1, dj) ?_ ?_ ?_
       ·simp only [go_sem]; simp [aP]
       ·refine ⟨by simp only; omega, by simp only; omega, k3, ?_⟩
        simp only
        rw [← h4, insOuter_go _ _ _ _ _ hlt, ← k4, insInner_stop ltO a (jp + 1) dj (.inr (by rw [bO, bO] at h5; exact h5))]
       ·simp only; omega
     ·have hg : ((a : Int) < (j : Int)) = False := by simp; omega
      simp only [aP]
      have qH := aI @hg @decide_false; repeat' (with_reducible first | refine nY ?_ | (refine mX ?_; try simp only [go_sem, qH]) | refine kD ?_ | refine rT [16] [] ?_ | refine iW (aX ?_) (uX ?_) | refine lQ (aX ?_) ?_ | exact uB | refine rD ?_ | refine aO ?_ | fail)
      refine aQ (i + 1, dj) ?_ ?_ ?_
      ·simp only [go_sem]; simp [aP]
      ·refine ⟨by simp only; omega, by simp only; omega, k3, ?_⟩
       simp only
       rw [← h4, insOuter_go _ _ _ _ _ hlt, ← k4, insInner_stop ltO a j dj (.inl (by omega))]
      ·simp only; omega
   ·have hlt' : ((i : Int) < (b : Int)) = False := by simp [hlt]
    have hfin : dk = Sort.insertionSort ltO d a b := by
     unfold Sort.insertionSort
     rw [← h4, insOuter_stop _ _ _ _ _ hlt]
    subst hfin
    have q0 := @hlt'; have q1 := @decide_false; refine jD ?_
    exact aF rfl rfl
end Go.Proofs.Ytcppkdifiimblaa
end
section
set_option maxRecDepth 100000
namespace Go.Sx
open Go Go.RowKit
theorem LayL.take {V : View} {ds : List D} {ys : List Value} {Ss : List (List Nat)} (h : LayL V ds ys Ss) (n : Nat) : LayL V (ds.take n) (ys.take n) (Ss.take n) :=
 ⟨by simp [h.1], by simp [h.2.1], fun k d y S h1 h2 h3 => by
  rw [List.getElem?_take] at h1 h2 h3
  split at h1
  ·rw [if_pos ‹_›] at h2 h3; exact h.2.2 k d y S h1 h2 h3
  ·cases h1⟩
theorem LayL.drop {V : View} {ds : List D} {ys : List Value} {Ss : List (List Nat)} (h : LayL V ds ys Ss) (n : Nat) : LayL V (ds.drop n) (ys.drop n) (Ss.drop n) :=
 ⟨by simp [h.1], by simp [h.2.1], fun k d y S h1 h2 h3 => by
  rw [List.getElem?_drop] at h1 h2 h3
  exact h.2.2 _ d y S h1 h2 h3⟩
theorem RowAt.shape {w wr : World} {b ty N : Nat} {F : List Value} (h : RowAt w wr b ty N F) : wr.shape? b = some (ty, N) := by
 obtain ⟨c, h1, h2, h3⟩ := h.cells
 simp [World.shape?, h1, h2]
theorem RowAt.pre {w wr : World} {b ty N : Nat} {F G : List Value} (h : RowAt w wr b ty N F) (hp : G <+: F) : RowAt w wr b ty N G := by
 obtain ⟨c, h1, h2, h3⟩ := h.cells
 exact ⟨⟨c, h1, h2, hp.trans h3⟩, h.grown⟩
end Go.Sx
end
section
namespace Go.Proofs.Ytcppkdifiimblaa
open Go Go.Sx Go.RowKit Go.Proofs Go.Lib
end Go.Proofs.Ytcppkdifiimblaa
end
section
set_option maxRecDepth 100000
namespace Go.Proofs.Ytcppkdifiimblaa
open Go Go.Sx Go.RowKit Go.Proofs
end Go.Proofs.Ytcppkdifiimblaa
end
section
set_option maxRecDepth 100000
set_option maxHeartbeats 4000000
namespace Go.Proofs.Ytcppkdifiimblaa
open Go Go.Sx Go.RowKit Go.Proofs
def a7k (s : ByteArray) (y : TAttr) : Bool := !dH y.fName s
def a7l (a : List TAttr) (x : TAttr) : Bool := a.any fun y => decide (y.fName = x.fName) && !xS y.fValue x.fValue
def a7m (a : List TAttr) (x : TAttr) : Bool := a.any fun y => decide (y.fName = x.fName)
def a1Y (a : List TAttr) : List TAttr → List TAttr → Option (List TAttr)
 | l, [] => some l
 | l, x :: b => if a7l a x then none else if a7m a x then a1Y a l b else a1Y a (a6o (a2E (a7k x.fName) l) x l) b
def a9f (a b : TEdit) : TEdit := if a.fOK && b.fOK then (match a1Y a.fSet a.fSet b.fSet with | none => ⟨false, []⟩ | some l => ⟨true, l⟩) else ⟨false, []⟩
theorem gQ {α β : Type} (f : α → β) (l : List α) (n : Nat) : (l.map f).take n = (l.take n).map f := List.map_take.symm
theorem gT {α β : Type} (f : α → β) (l : List α) (n : Nat) : (l.map f).drop n = (l.drop n).map f := List.map_drop.symm
end Go.Proofs.Ytcppkdifiimblaa
end
section
set_option maxRecDepth 100000
set_option maxHeartbeats 4000000
namespace Go.Proofs.Ytcppkdifiimblaa
open Go Go.Sx Go.RowKit Go.Proofs
theorem yZ (s : TStore) (id : Int) (h : bI s ≤ 4300000) : FnC Try.prog 18 [eZ s, oi id] (.t [(true, (kV (fI id s.fFiles)).cells), (false, [.d (bv (decide (0 ≤ ixF id s.fFiles)))])]) := (a0D s id h).pu (by simp only [go_sem, and_self])
def fK (v : TValue) : List aB → Nat
 | [] => 0
 | p :: l => if cmpV p.1.fValue v < 0 then fK v l + 1 else 0
theorem a5S (v : TValue) : ∀ {l : List aB} {n : Nat} (h : n < l.length), fK v l = n + fK v (l.drop n) → fK v l = if cmpV l[n].1.fValue v < 0 then n + 1 + fK v (l.drop (n + 1)) else n := fun {l n} h e => by
 rw [e, List.drop_eq_getElem_cons h, fK]
 split <;> omega
theorem a0y (v : TValue) (id : Int) (z' : Value) : ∀ {its : List aB} (h : fK v its < its.length), iI v its[fK v its] = true →
    dO (its.map (·.1)) (v, id) = (its.set (fK v its) (⟨its[fK v its].1.fValue, its[fK v its].1.fIDs ++ [id]⟩, z')).map (·.1)
 | [], h, _ => by simp at h
 | p :: l, h, h1 => by
  by_cases hc : cmpV p.1.fValue v < 0
  ·have e : fK v (p :: l) = fK v l + 1 := by simp [fK, hc]
   simp only [e, List.getElem_cons_succ, List.set_cons_succ, List.map_cons, dO, hc, if_true] at h1 ⊢
   rw [a0y v id z' (by rw [e] at h; simpa using h) h1]
  ·have e : fK v (p :: l) = 0 := by simp [fK, hc]
   simp only [e, List.getElem_cons_zero] at h1 ⊢
   have hv : p.1.fValue = v := (jP _ _).1 h1
   simp only [hv] at hc
   simp [dO, hc, hv]
theorem uV (v : TValue) (id : Int) (z : Value) : ∀ {its : List aB}, (∀ h : fK v its < its.length, iI v its[fK v its] = false) →
    dO (its.map (·.1)) (v, id) = (its.take (fK v its) ++ [((⟨v, [id]⟩ : TGroup), z)] ++ its.drop (fK v its)).map (·.1)
 | [], _ => rfl
 | p :: l, h => by
  by_cases hc : cmpV p.1.fValue v < 0
  ·have e : fK v (p :: l) = fK v l + 1 := by simp [fK, hc]
   have ih := uV v id z (its := l) fun hl => by
    have := h (by rw [e]; simpa using hl)
    simpa only [e, List.getElem_cons_succ] using this
   simp only [e, List.map_cons, dO, hc, if_true, List.take_succ_cons, List.drop_succ_cons, List.cons_append]
   rw [ih]
  ·have e : fK v (p :: l) = 0 := by simp [fK, hc]
   have h1 := h (by rw [e]; simp)
   simp only [e, List.getElem_cons_zero] at h1
   have hv : ¬ p.1.fValue = v := fun k => by rw [iI, (jP _ _).2 k] at h1; cases h1
   simp [dO, hc, hv, e]
theorem a0z (x : TValue × Int) : ∀ l : List TGroup, wsum (fun g => g.fIDs.length) (dO l x) = wsum (fun g => g.fIDs.length) l + 1 ∧ (dO l x).length ≤ l.length + 1
 | [] => by simp [dO, wsum]
 | g :: l => by
  have ih := a0z x l
  unfold dO
  split
  ·simp [wsum]; omega
  ·split
   ·simp [wsum]; omega
   ·simp [wsum]; omega
theorem a2v (xs : List (TValue × Int)) : ∀ l : List TGroup, wsum (fun g => g.fIDs.length) (xs.foldl dO l) = wsum (fun g => g.fIDs.length) l + xs.length ∧ (xs.foldl dO l).length ≤ l.length + xs.length := by
 induction xs with
 | nil => intro l; simp
 | cons x xs ih =>
  intro l
  have h1 := a0z x l
  have h2 := ih (dO l x)
  simp only [List.foldl_cons, List.length_cons]
  omega
def sD (n : Nat) (v : TValue) (id : Int) (z : Value) (l : List aB) : List aB := l.take n ++ [((⟨v, [id]⟩ : TGroup), z)] ++ l.drop n
theorem xK (n : Nat) (v : TValue) (id : Int) (z : Value) (l : List aB) : (l.map lV ++ [(z, [[Value.int .i64 id]])]).Perm ((sD n v id z l).map lV) := by
 have e : l.map lV ++ [(z, [[Value.int .i64 id]])] = (l ++ [((⟨v, [id]⟩ : TGroup), z)]).map lV := by simp [lV]
 rw [e]
 refine List.Perm.map _ ?_
 unfold sD
 conv => lhs; rw [← List.take_append_drop n l]
 rw [List.append_assoc, List.append_assoc]
 exact List.Perm.append_left _ List.perm_append_comm
theorem gM (n : Nat) (v : TValue) (id : Int) (z : Value) (l : List aB) : (sD n v id z l).map fO = (l.take n).map fO ++ [[iv v.fKind, iv v.fInt, sv v.fStr, .v z]] ++ (l.drop n).map fO := by simp [sD, fO]
namespace Opq
theorem specGroup_ok (s : TStore) (ids : List Int) (name : ByteArray) (h : bI s ≤ 1048576) (hi : ids.length ≤ 1048576) :
    FnC Try.prog 5 [eZ s, .o (.d (.sl (ids.map fJ))), os name] (.o (.w 55 4 (((bV s ids name).foldl dO []).map dC))) := by
 refine ent Try.func5 rfl Try.call5 rfl (fun C => ?_); simp only [go_sem, st0, Try.ntmps5]
 refine aL ?_
 refine WP.sees (Sees.pool0 3 1) ?_
 simp only [go_sem]
 refine bE (α := Nat × List aB) (fun x => [(7, .o (.s 1)), (8, oi x.1), (14, .o .u)]) (fun x => [(1, .row 55 4 (x.2.map fO) true), (2, .pool 3 1 (x.2.map lV))]) (fun x => x.1 ≤ ids.length ∧ x.2.map (·.1) = ((bV s ids name).take x.1).foldl dO []) (fun x => ids.length - x.1) (0, []) (fun _ => ?_) ?_ ?_ (fun x hx => ?_)
 ·simp only [go_sem]
 ·simp only [go_sem]; simp
 ·simp
 ·obtain ⟨k, its⟩ := x
  obtain ⟨hk, hq⟩ := hx
  simp only at hk hq
  simp only [go_sem]
  refine aL ?_
  refine cnd rfl (fun h1 => ?_) (fun h1 => ?_)
  ·simp only [decide_eq_true_eq, Int.ofNat_lt] at h1
   have hfw : wFile (fI ids[k] s.fFiles) ≤ 4300000 := by have := a2D ids[k] s.fFiles; unfold bI at h; omega
   have hG := vR (fI ids[k] s.fFiles) name hfw
   have hvk : (bV s ids name).take (k + 1) = (bV s ids name).take k ++ [(getAttr name (fI ids[k] s.fFiles).fAttrs, ids[k])] := by
    rw [List.take_succ_eq_append_getElem (by simpa [bV] using h1)]
    simp [bV]
   generalize getAttr name (fI ids[k] s.fFiles).fAttrs = v at hG hvk
   have hsum := a2v ((bV s ids name).take k) []
   rw [← hq] at hsum
   have hvl : ((bV s ids name).take k).length = k := by simp [bV]; omega
   rw [hvl] at hsum
   simp only [wsum, List.length_nil, List.length_map, Nat.zero_add] at hsum
   have hil : its.length ≤ k := hsum.2
   have hF := yZ s ids[k] (by omega)
   have qH := @h1; repeat' (with_reducible first | refine nY ?_ | (refine mX ?_; try simp only [go_sem, qH]) | refine kD ?_ | (apply rE [5,9,10] [] [0,1,2,3,4] [0,1,2,3,4] ((.c 5 [6,7,8] [6,7,8] (.c 9 [] [6,7,8] (.c 10 [11] [8,11] .n .n) .n) (.c 9 [] [0,1,2,3,4] (.c 5 [6,7,8] [6,7,8] (.c 10 [11] [8,11] .n .n) .n) .n))) (by simp only [go_sem]; rfl) (by simp only [go_sem]; rfl) (by simp only [go_sem]; rfl) (by decide +kernel); (focus simp only [go_sem]; done)) | exact fU | refine dZ (uX ?_) ?_ | refine eB (aX ?_) ?_ | refine eD (aX ?_) ?_ | exact gJ | exact oH | exact uB | refine rD ?_ | refine cP hF ?_ | refine cP hG ?_ | refine aO ?_ | fail)
   have hC := fun p : aB => vU p.1.fValue v
   refine bE (α := Nat) (fun n => [(12, oi n)]) (fun _ => []) (fun n => n ≤ its.length ∧ fK v its = n + fK v (its.drop n)) (fun n => its.length - n) 0 (fun _ => ?_) ?_ ?_ (fun n hn => ?_)
   ·simp only [go_sem]
   ·simp only [go_sem]; simp
   ·simp
   ·obtain ⟨hn, hf⟩ := hn
    simp only [go_sem]
    by_cases h5 : n < its.length
    ·have hfx := a5S v h5 hf
     have h5' : ((n : Int) < (its.length : Int)) = True := by simp [h5]
     have qH := aI @h5 (aI @h5' @decide_true); repeat' (with_reducible first | refine nY ?_ | (refine mX ?_; try simp only [go_sem, qH]) | refine kD ?_ | refine rT [13] [] ?_ | refine iW (aX ?_) (uX ?_) | refine lQ (aX ?_) ?_ | (refine uA ?_; simp only [go_sem, qH]; (repeat' first | omega | refine And.intro ?_ ?_ | refine cP (hC its[n]) ?_ | (refine mX ?_; simp only [go_sem, qH] <;> fail)); done) | refine rD ?_ | refine cP (hC its[n]) ?_ | refine aO ?_ | fail)
     refine cnd rfl (fun h6 => ?_) (fun h6 => ?_)
     ·simp only [decide_eq_true_eq] at h6
      rw [if_pos h6] at hfx
      refine aL ?_
      refine aQ (n + 1) ?_ ?_ ?_
      ·simp only [go_sem]; simp
      ·exact ⟨by omega, hfx⟩
      ·omega
     ·simp only [decide_eq_false_iff_not] at h6
      rw [if_neg h6] at hfx
      have qH := aI @h5 (aI @h5' @decide_true); repeat' (with_reducible first | refine nY ?_ | (refine mX ?_; try simp only [go_sem, qH]) | refine kD ?_ | refine rT [12] [] ?_ | refine iW (aX ?_) (uX ?_) | refine lQ (aX ?_) ?_ | exact uB | refine rD ?_ | refine aO ?_ | fail)
      refine cnd (b := iI v its[n]) rfl (fun h7 => ?_) (fun h7 => ?_)
      ·have qH := aI @h5 (aI @h5' (aI @h1 @decide_true)); repeat' (with_reducible first | refine nY ?_ | (refine mX ?_; try simp only [go_sem, qH]) | refine kD ?_ | (apply rF [11,12,15] [] [0,1,2,3,4,5,6,7,8,9,10] [0,1,2,3,4,5,6,7,8,9,10] ((.c 11 [] [0,1,2,3,4,5,6] (.c 12 [13,14] [0,1,13,14] (.c 15 [] [] .n .n) .n) .n)) (by simp only [go_sem]; rfl) (by simp only [go_sem]; rfl) (by simp only [go_sem]; rfl) (by decide +kernel); (focus simp only [go_sem]; done)) | exact fU | refine dZ (uX ?_) ?_ | refine eB (aX ?_) ?_ | refine eD (aX ?_) ?_ | exact gJ | exact oH | exact uB | refine rD ?_ | refine aO ?_ | fail)
       refine ⟨by simp, a4o fun z2 => ?_⟩
       have qH := aI @h5 (aI @h5' (aI @h1 @decide_true)); repeat' (with_reducible first | refine nY ?_ | (refine mX ?_; try simp only [go_sem, qH]) | refine kD ?_ | exact fU | refine dZ (uX ?_) ?_ | refine eB (aX ?_) ?_ | refine eD (aX ?_) ?_ | exact uB | refine rD ?_ | refine aO ?_ | fail)
       refine a6L 2 n 5 (its[n].1.fIDs.map fun i => [.int .i64 i]) [[.int .i64 ids[k]]] rfl rfl ?_ (List.mem_singleton.2 rfl) (by simp) ?_ (fun z' => ?_)
       ·rw [List.getElem?_map, List.getElem?_eq_getElem h5]; rfl
       ·have hi2 := dK (fun g : TGroup => g.fIDs.length) (its.map (·.1)) (k := n) (by simpa using h5)
        simp only [List.getElem_map] at hi2
        simp only [go_sem, List.length_map, List.length_cons, List.length_nil]
        omega
       ·simp only [go_sem]
        have qH := aI @h5 (aI @h5' (aI @h1 @decide_true)); repeat' (with_reducible first | refine nY ?_ | (refine mX ?_; try simp only [go_sem, qH]) | refine kD ?_ | exact fU | refine dZ (uX ?_) ?_ | refine eB (aX ?_) ?_ | refine eD (aX ?_) ?_ | exact uB | refine rD ?_ | refine aO ?_ | fail)
        refine aQ (k + 1, its.set n (⟨its[n].1.fValue, its[n].1.fIDs ++ [ids[k]]⟩, z')) ?_ ?_ ?_
        ·simp only [go_sem]; simp [List.map_set, fO, lV]
        ·refine ⟨h1, ?_⟩
         simp only
         rw [hvk, List.foldl_append, ← hq]
         simp only [List.foldl_cons, List.foldl_nil]
         subst hfx
         exact (a0y v ids[k] z' h5 h7).symm
        ·simp only; omega
      ·have hins : ∀ z2, (sD n v ids[k] z2 its).map (·.1) = ((bV s ids name).take (k + 1)).foldl dO [] := fun z2 => by
        rw [hvk, List.foldl_append, ← hq]
        simp only [List.foldl_cons, List.foldl_nil]
        subst hfx
        exact (uV v ids[k] z2 fun hl => h7).symm
       refine WP.sees (Sees.frz 1 rfl) ?_
       simp only [go_sem]
       have qH := aI @h5 (aI @h5' (aI @h1 (aI @gQ (aI @gT (aI @xI (aI @xJ @a3j)))))); repeat' (with_reducible first | refine nY ?_ | (refine mX ?_; try simp only [go_sem, qH]) | refine kD ?_ | (apply rF [0,4,10,12,13] [] [1,2,3,5,6,7,8,9] [1,2,3,5,6,7,8,9] ((.c 0 [] [1,2,3,5,6,7,8,9] (.c 4 [] [5,6,7,8,9] (.c 10 [11] [5,11] (.c 12 [] [] (.c 13 [14] [14] .n .n) .n) .n) (.c 10 [11] [1,2,3,5,11] (.c 4 [] [5,11] (.c 12 [] [] (.c 13 [14] [14] .n .n) .n) (.c 12 [] [1,2,3] (.c 4 [] [] (.c 13 [14] [14] .n .n) .n) .n)) .n)) (.c 10 [11] [1,2,3,5,11] (.c 0 [] [1,2,3,5,11] (.c 4 [] [5,11] (.c 12 [] [] (.c 13 [14] [14] .n .n) .n) (.c 12 [] [1,2,3] (.c 4 [] [] (.c 13 [14] [14] .n .n) .n) .n)) (.c 12 [] [1,2,3] (.c 0 [] [1,2,3] (.c 4 [] [] (.c 13 [14] [14] .n .n) .n) .n) .n)) .n))) (by simp only [go_sem]; rfl) (by simp only [go_sem]; rfl) (by simp only [go_sem]; rfl) (by decide +kernel); (focus simp only [go_sem]; done)) | exact fU | refine dZ (uX ?_) ?_ | refine eB (aX ?_) ?_ | refine eD (aX ?_) ?_ | exact gJ | exact oH | exact uB | refine rD ?_ | refine aO ?_ | fail)
       all_goals
        refine ⟨by simp, a4o fun z2 => ?_⟩
        have qH := aI @h5 (aI @h5' (aI @h1 (aI @gQ (aI @gT (aI @xI (aI @xJ @a3j)))))); repeat' (with_reducible first | refine nX ?_ | (refine mX ?_; try simp only [go_sem, qH]) | refine kD ?_ | exact fU | refine dZ (uX ?_) ?_ | refine eB (aX ?_) ?_ | refine eD (aX ?_) ?_ | exact uB | refine aO ?_ | fail)
       all_goals
        first | refine WP.sees (Sees.poolM 2 5 rfl rfl (by decide)) ?_ | refine WP.sees (Sees.poolM 2 6 rfl rfl (by decide)) ?_ | refine WP.sees (Sees.poolM 2 7 rfl rfl (by decide)) ?_
        refine WP.sees (Sees.poolP 2 rfl (xK n v ids[k] z2 its)) ?_
        simp only [go_sem]
        have q0 := @h5; have q1 := @h5'; have q2 := @h1; have q3 := @gQ; have q4 := @gT; have q5 := @xI; have q6 := @xJ; have q7 := @a3j; refine a4t ?_
       all_goals
        first
        | (refine mG [(1, 5)] (k + 1, sD n v ids[k] z2 its) (by simp only [go_sem]; rfl) ?_ ⟨h1, hins z2⟩ (by simp only; omega)
           simp only [go_sem]
           simp [gM]
           done)
        | (refine mG [(1, 6)] (k + 1, sD n v ids[k] z2 its) (by simp only [go_sem]; rfl) ?_ ⟨h1, hins z2⟩ (by simp only; omega)
           simp only [go_sem]
           simp [gM]
           done)
        | (refine mG [(1, 7)] (k + 1, sD n v ids[k] z2 its) (by simp only [go_sem]; rfl) ?_ ⟨h1, hins z2⟩ (by simp only; omega)
           simp only [go_sem]
           simp [gM]
           done)
    ·have e : n = its.length := by omega
     have hfx : fK v its = n := by rw [hf, e, List.drop_length]; rfl
     have h5' : ((n : Int) < (its.length : Int)) = False := by simp [h5]
     have hins : ∀ z2, (sD n v ids[k] z2 its).map (·.1) = ((bV s ids name).take (k + 1)).foldl dO [] := fun z2 => by
      rw [hvk, List.foldl_append, ← hq]
      simp only [List.foldl_cons, List.foldl_nil]
      subst hfx
      exact (uV v ids[k] z2 fun hl => by omega).symm
     refine WP.sees (Sees.frz 1 rfl) ?_
     simp only [go_sem]
     have qH := aI @h5 (aI @h5' (aI @h1 (aI @decide_false (aI @gQ (aI @gT (aI @xI (aI @xJ @a3j))))))); repeat' (with_reducible first | refine nY ?_ | (refine mX ?_; try simp only [go_sem, qH]) | refine kD ?_ | (apply rF [0,4,10,12,13] [] [1,2,3,5,6,7,8,9] [1,2,3,5,6,7,8,9] ((.c 0 [] [1,2,3,5,6,7,8,9] (.c 4 [] [5,6,7,8,9] (.c 10 [11] [5,11] (.c 12 [] [] (.c 13 [14] [14] .n .n) .n) .n) (.c 10 [11] [1,2,3,5,11] (.c 4 [] [5,11] (.c 12 [] [] (.c 13 [14] [14] .n .n) .n) (.c 12 [] [1,2,3] (.c 4 [] [] (.c 13 [14] [14] .n .n) .n) .n)) .n)) (.c 10 [11] [1,2,3,5,11] (.c 0 [] [1,2,3,5,11] (.c 4 [] [5,11] (.c 12 [] [] (.c 13 [14] [14] .n .n) .n) (.c 12 [] [1,2,3] (.c 4 [] [] (.c 13 [14] [14] .n .n) .n) .n)) (.c 12 [] [1,2,3] (.c 0 [] [1,2,3] (.c 4 [] [] (.c 13 [14] [14] .n .n) .n) .n) .n)) .n))) (by simp only [go_sem]; rfl) (by simp only [go_sem]; rfl) (by simp only [go_sem]; rfl) (by decide +kernel); (focus simp only [go_sem]; done)) | exact fU | refine dZ (uX ?_) ?_ | refine eB (aX ?_) ?_ | refine eD (aX ?_) ?_ | exact gJ | exact oH | exact uB | refine rD ?_ | (refine rT [13] [] ?_) | (refine iW (aX ?_) (uX ?_)) | (refine lQ (aX ?_) ?_) | refine aO ?_ | fail)
     all_goals
      refine ⟨by simp, a4o fun z2 => ?_⟩
      have qH := aI @h5 (aI @h5' (aI @h1 (aI @gQ (aI @gT (aI @xI (aI @xJ @a3j)))))); repeat' (with_reducible first | refine nX ?_ | (refine mX ?_; try simp only [go_sem, qH]) | refine kD ?_ | exact fU | refine dZ (uX ?_) ?_ | refine eB (aX ?_) ?_ | refine eD (aX ?_) ?_ | exact uB | refine aO ?_ | fail)
     all_goals
      first | refine WP.sees (Sees.poolM 2 5 rfl rfl (by decide)) ?_ | refine WP.sees (Sees.poolM 2 6 rfl rfl (by decide)) ?_ | refine WP.sees (Sees.poolM 2 7 rfl rfl (by decide)) ?_
      refine WP.sees (Sees.poolP 2 rfl (xK n v ids[k] z2 its)) ?_
      simp only [go_sem]
      have q0 := @h5; have q1 := @h5'; have q2 := @h1; have q3 := @gQ; have q4 := @gT; have q5 := @xI; have q6 := @xJ; have q7 := @a3j; refine a4t ?_
     all_goals
      first
      | (refine mG [(1, 5)] (k + 1, sD n v ids[k] z2 its) (by simp only [go_sem]; rfl) ?_ ⟨h1, hins z2⟩ (by simp only; omega)
         simp only [go_sem]
         simp [gM]
         done)
      | (refine mG [(1, 6)] (k + 1, sD n v ids[k] z2 its) (by simp only [go_sem]; rfl) ?_ ⟨h1, hins z2⟩ (by simp only; omega)
         simp only [go_sem]
         simp [gM]
         done)
      | (refine mG [(1, 7)] (k + 1, sD n v ids[k] z2 its) (by simp only [go_sem]; rfl) ?_ ⟨h1, hins z2⟩ (by simp only; omega)
         simp only [go_sem]
         simp [gM]
         done)
  ·simp only [decide_eq_false_iff_not] at h1
   have e : k = ids.length := by omega
   subst e
   have hvl : (bV s ids name).length = ids.length := by simp [bV]
   rw [← hvl, List.take_length] at hq
   rw [← hq]
   refine aL ?_
   refine wO (Sees.unpool 1 2 (its.map itO) (by rw [List.map_map]; rfl) rfl (by rw [List.map_map]; exact List.Perm.refl _)) ?_
   simp only [go_sem]
   have hclr : (its.map itO).map jC = (its.map (·.1)).map dC := by
    rw [List.map_map, List.map_map]
    exact List.map_congr_left fun p _ => a2F p
   exact aA ⟨⟨_, rfl, by simp only [go_sem, hclr]⟩, trivial⟩
end Opq
end Go.Proofs.Ytcppkdifiimblaa
end
section
set_option maxRecDepth 100000
set_option maxHeartbeats 4000000
namespace Go.Proofs.Ytcppkdifiimblaa
open Go Go.Sx Go.RowKit Go.Proofs
theorem uT {α : Type} (f : α → Nat) : ∀ a b : List α, wsum f (a ++ b) = wsum f a + wsum f b
 | [], b => by simp [wsum]
 | x :: a, b => by simp only [List.cons_append, wsum, uT f a b]; omega
theorem uU {α : Type} (f : α → Nat) : ∀ (l v : List α), l.Pairwise (· ≠ ·) → (∀ x ∈ l, x ∈ v) → wsum f l ≤ wsum f v
 | [], v, _, _ => by simp [wsum]
 | x :: l, v, hn, hv => by
  rw [List.pairwise_cons] at hn
  obtain ⟨a, b, rfl⟩ := List.append_of_mem (hv x List.mem_cons_self)
  have h1 := uU f l (a ++ b) hn.2 fun y hy => by
   have h2 := hv y (List.mem_cons_of_mem _ hy)
   rcases List.mem_append.1 h2 with h2 | h2
   ·exact List.mem_append_left _ h2
   ·rcases List.mem_cons.1 h2 with h2 | h2
    ·exact absurd h2.symm (hn.1 y hy)
    ·exact List.mem_append_right _ h2
  rw [uT] at h1 ⊢
  simp only [wsum]
  omega
def a4u (l : List TFile) : List TValue := ⟨0, 0, ⟨#[]⟩⟩ :: l.flatMap fun f => f.fAttrs.map TAttr.fValue
theorem a4v : ∀ l : List TFile, wsum cO (a4u l) ≤ bZ l + 1
 | [] => by
  show cO ⟨0, 0, ⟨#[]⟩⟩ + 0 ≤ _
  have : cO ⟨0, 0, ⟨#[]⟩⟩ = 0 := rfl
  omega
 | f :: l => by
  have h1 := a4v l
  have h2 : ∀ a : List TAttr, wsum cO (a.map TAttr.fValue) ≤ wsum wAttr a := fun a => by
   induction a with
   | nil => simp [wsum]
   | cons x a ih => simp only [List.map_cons, wsum, wAttr]; omega
  have h3 := h2 f.fAttrs
  unfold a4u at h1 ⊢
  simp only [wsum, List.flatMap_cons, uT, bZ, List.length_cons, wFile, cK] at h1 ⊢
  omega
theorem a4w (n : ByteArray) (id : Int) (l : List TFile) : getAttr n (fI id l).fAttrs ∈ a4u l := by
 have hg : ∀ a : List TAttr, getAttr n a = ⟨0, 0, ⟨#[]⟩⟩ ∨ getAttr n a ∈ a.map TAttr.fValue := fun a => by
  induction a with
  | nil => exact Or.inl rfl
  | cons x a ih =>
   unfold getAttr
   split
   ·exact Or.inr (by simp)
   ·rcases ih with h | h
    ·exact Or.inl h
    ·exact Or.inr (List.mem_cons_of_mem _ h)
 rcases ixF_cases id l with h | ⟨p, h, hp, _⟩
 ·rw [pR h]; exact List.mem_cons_self
 ·rw [mP h hp]
  rcases hg l[p].fAttrs with h1 | h1
  ·rw [h1]; exact List.mem_cons_self
  ·exact List.mem_cons_of_mem _ (List.mem_flatMap.2 ⟨l[p], List.getElem_mem _, h1⟩)
theorem a3k (V : List TValue) (xs : List (TValue × Int)) : ∀ l : List TGroup, (∀ x ∈ xs, x.1 ∈ V) → (∀ g ∈ l, g.fValue ∈ V) → ∀ g ∈ xs.foldl dO l, g.fValue ∈ V := by
 induction xs with
 | nil => intro l _ h; exact h
 | cons x xs ih =>
  intro l hx hl
  refine ih (dO l x) (fun y hy => hx y (List.mem_cons_of_mem _ hy)) fun g hg => ?_
  rcases insG_mem hg with e | ⟨g', h1, h2⟩
  ·rw [e]; exact hx x List.mem_cons_self
  ·rw [← h2]; exact hl g' h1
theorem a4x (xs : List (TValue × Int)) : ∀ l : List TGroup, l.Pairwise ltG → (xs.foldl dO l).Pairwise ltG := by
 induction xs with
 | nil => intro l h; exact h
 | cons x xs ih => intro l h; exact ih _ (rP x h)
theorem a6R (s : TStore) (ids : List Int) (name : ByteArray) : pU ((bV s ids name).foldl dO []) ≤ bI s + 1 + 2 * ids.length := by
 have h1 := kW (a4x (bV s ids name) [] List.Pairwise.nil)
 have h2 := a3k (a4u s.fFiles) (bV s ids name) [] (fun x hx => by
  obtain ⟨id, _, rfl⟩ := List.mem_map.1 hx
  exact a4w name id s.fFiles) (by simp)
 have h3 := a2v (bV s ids name) []
 have h4 : (bV s ids name).length = ids.length := by simp [bV]
 generalize (bV s ids name).foldl dO [] = G at *
 have h5 := uU cO (G.map TGroup.fValue) (a4u s.fFiles) (by rw [List.pairwise_map]; exact h1) (fun x hx => by
  obtain ⟨g, hg, rfl⟩ := List.mem_map.1 hx
  exact h2 g hg)
 have h6 := a4v s.fFiles
 have h7 : ∀ l : List TGroup, wsum jF l = wsum cO (l.map TGroup.fValue) + wsum (fun g => g.fIDs.length) l := fun l => by
  induction l with
  | nil => rfl
  | cons g l ih => simp only [List.map_cons, wsum, jF, ih]; omega
 have h8 : bZ s.fFiles ≤ bI s := by unfold bI; omega
 have h9 := h7 G
 simp only [wsum, List.length_nil, Nat.zero_add] at h3
 unfold pU
 omega
end Go.Proofs.Ytcppkdifiimblaa
end
section
namespace Go.Sym
open Go.Sort
variable {α : Type} [Inhabited α]
def rotG (a m b : Nat) (d : Array α) (t : Nat) : α := if a ≤ t ∧ t < a + (b - m) then d[m + (t - a)]! else if a + (b - m) ≤ t ∧ t < b then d[a + (t - (a + (b - m)))]! else d[t]!
structure Rot (a m b : Nat) (d d' : Array α) : Prop where
 size : d'.size = d.size
 at_ : ∀ t, d'[t]! = rotG a m b d t
def a3F (a b n : Nat) (d : Array α) (t : Nat) : α := if a ≤ t ∧ t < a + n then d[b + (t - a)]! else if b ≤ t ∧ t < b + n then d[a + (t - b)]! else d[t]!
structure Swr (a b n : Nat) (d d' : Array α) : Prop where
 size : d'.size = d.size
 at_ : ∀ t, d'[t]! = a3F a b n d t
theorem Swr.zero (a b : Nat) (d : Array α) : Swr a b 0 d d := ⟨rfl, fun t => by unfold a3F; rw [if_neg (by omega), if_neg (by omega)]⟩
theorem Swr.step {a b n : Nat} {d d' : Array α} (h : Swr a b n d d') (hab : a + n < b) (hb : b + n < d.size) : Swr a b (n + 1) d (swp d' (a + n) (b + n)) := by
 have hs := h.size
 refine ⟨by rw [swp_size]; exact hs, fun t => ?_⟩
 rw [swp_get d' (show a + n < d'.size by omega) (show b + n < d'.size by omega), h.at_, h.at_, h.at_]
 unfold a3F
 by_cases h1 : t = b + n
 ·subst h1
  rw [if_pos rfl, if_neg (by omega), if_neg (by omega), if_neg (by omega), if_pos (by omega)]
  congr 1; omega
 ·rw [if_neg h1]
  by_cases h2 : t = a + n
  ·subst h2
   rw [if_pos rfl, if_neg (by omega), if_neg (by omega), if_pos (by omega)]
   congr 1; omega
  ·rw [if_neg h2]
   by_cases h3 : a ≤ t ∧ t < a + n
   ·rw [if_pos h3, if_pos (by omega)]
   ·by_cases h4 : b ≤ t ∧ t < b + n
    ·rw [if_neg h3, if_pos h4, if_neg (by omega), if_pos (by omega)]
    ·rw [if_neg h3, if_neg h4, if_neg (by omega), if_neg (by omega)]
theorem a5h {m i j : Nat} {d d' : Array α} (h : Swr (m - i) m j d d') (hi : i ≤ m) (hij : j < i) (t : Nat) : rotG (m - (i - j)) m (m + j) d' t = rotG (m - i) m (m + j) d t := by
 unfold rotG
 simp only [h.at_]
 unfold a3F
 by_cases h1 : m - i ≤ t ∧ t < m - i + j
 ·rw [if_neg (by omega), if_neg (by omega), if_pos (by omega), if_pos (by omega)]
 ·by_cases h2 : t < m - i
  ·rw [if_neg (by omega), if_neg (by omega), if_neg (by omega), if_neg (by omega), if_neg (by omega), if_neg (by omega)]
  ·by_cases h3 : m + j ≤ t
   ·rw [if_neg (by omega), if_neg (by omega), if_neg (by omega), if_neg (by omega), if_neg (by omega), if_neg (by omega)]
   ·by_cases h4 : t < m - (i - j) + (m + j - m)
    ·rw [if_pos (by omega), if_neg (by omega), if_pos (by omega), if_neg (by omega), if_pos (by omega)]
     congr 1; omega
    ·rw [if_neg (by omega), if_pos (by omega), if_neg (by omega), if_neg (by omega), if_neg (by omega), if_pos (by omega)]
     congr 1; omega
theorem a3G {m i j : Nat} {d d' : Array α} (h : Swr (m - i) (m + j - i) i d d') (hi : i ≤ m) (hij : i < j) (t : Nat) : rotG (m - i) m (m + (j - i)) d' t = rotG (m - i) m (m + j) d t := by
 unfold rotG
 simp only [h.at_]
 unfold a3F
 by_cases h1 : m + j - i ≤ t ∧ t < m + j
 ·rw [if_neg (by omega), if_neg (by omega), if_neg (by omega), if_pos (by omega), if_neg (by omega), if_pos (by omega)]
  congr 1; omega
 ·by_cases h2 : t < m - i
  ·rw [if_neg (by omega), if_neg (by omega), if_neg (by omega), if_neg (by omega), if_neg (by omega), if_neg (by omega)]
  ·by_cases h3 : m + j ≤ t
   ·rw [if_neg (by omega), if_neg (by omega), if_neg (by omega), if_neg (by omega), if_neg (by omega), if_neg (by omega)]
   ·by_cases h4 : t < m - i + (m + (j - i) - m)
    ·rw [if_pos (by omega), if_neg (by omega), if_neg (by omega), if_pos (by omega)]
    ·rw [if_neg (by omega), if_pos (by omega), if_pos (by omega), if_pos (by omega)]
     congr 1; omega
theorem a5i {m i : Nat} {d d' : Array α} (h : Swr (m - i) m i d d') (hi : i ≤ m) (t : Nat) : d'[t]! = rotG (m - i) m (m + i) d t := by
 rw [h.at_]
 unfold rotG a3F
 by_cases h1 : m - i ≤ t ∧ t < m - i + i
 ·rw [if_pos h1, if_pos (by omega)]
 ·rw [if_neg h1]
  by_cases h2 : m ≤ t ∧ t < m + i
  ·rw [if_pos h2, if_neg (by omega), if_pos (by omega)]
   congr 1; omega
  ·rw [if_neg h2, if_neg (by omega), if_neg (by omega)]
theorem Rot.up0 (a : Nat) (d : Array α) : Rot a (a + 1) (a + 1) d d := ⟨rfl, fun t => by
 unfold rotG
 rw [if_neg (by omega)]
 by_cases h : a + (a + 1 - (a + 1)) ≤ t ∧ t < a + 1
 ·rw [if_pos h]; congr 1; omega
 ·rw [if_neg h]⟩
theorem Rot.up {a k : Nat} {d d' : Array α} (h : Rot a (a + 1) (k + 1) d d') (hk : a ≤ k) (hs : k + 1 < d.size) : Rot a (a + 1) (k + 1 + 1) d (swp d' k (k + 1)) := by
 have hz := h.size
 refine ⟨by rw [swp_size]; exact hz, fun t => ?_⟩
 rw [swp_get d' (show k < d'.size by omega) (show k + 1 < d'.size by omega), h.at_, h.at_, h.at_]
 unfold rotG
 by_cases h1 : t = k + 1
 ·subst h1
  rw [if_pos rfl, if_neg (by omega), if_pos (by omega), if_neg (by omega), if_pos (by omega)]
  congr 1; omega
 ·rw [if_neg h1]
  by_cases h2 : t = k
  ·subst h2
   rw [if_pos rfl, if_neg (by omega), if_neg (by omega), if_pos (by omega)]
   congr 1; omega
  ·rw [if_neg h2]
   by_cases h3 : a ≤ t ∧ t < k
   ·rw [if_pos (by omega), if_pos (by omega)]
   ·rw [if_neg (by omega), if_neg (by omega), if_neg (by omega), if_neg (by omega)]
theorem Rot.down0 (m : Nat) (d : Array α) : Rot m m (m + 1) d d := ⟨rfl, fun t => by
 unfold rotG
 by_cases h : m ≤ t ∧ t < m + (m + 1 - m)
 ·rw [if_pos h]; congr 1; omega
 ·rw [if_neg h, if_neg (by omega)]⟩
theorem Rot.down {k m : Nat} {d d' : Array α} (h : Rot (k + 1) m (m + 1) d d') (hk : k + 1 ≤ m) (hs : m < d.size) : Rot k m (m + 1) d (swp d' (k + 1) k) := by
 have hz := h.size
 refine ⟨by rw [swp_size]; exact hz, fun t => ?_⟩
 rw [swp_get d' (show k + 1 < d'.size by omega) (show k < d'.size by omega), h.at_, h.at_, h.at_]
 unfold rotG
 by_cases h1 : t = k
 ·subst h1
  rw [if_pos rfl, if_pos (by omega), if_pos (by omega)]
  congr 1; omega
 ·rw [if_neg h1]
  by_cases h2 : t = k + 1
  ·subst h2
   rw [if_pos rfl, if_neg (by omega), if_neg (by omega), if_neg (by omega), if_pos (by omega)]
   congr 1; omega
  ·rw [if_neg h2]
   by_cases h3 : k + 1 < t ∧ t < m + 1
   ·rw [if_neg (by omega), if_pos (by omega), if_neg (by omega), if_pos (by omega)]
    congr 1; omega
   ·rw [if_neg (by omega), if_neg (by omega), if_neg (by omega), if_neg (by omega)]
theorem Rot.id_left {m b : Nat} (d : Array α) : Rot m m b d d := ⟨rfl, fun t => by
 unfold rotG
 by_cases h : m ≤ t ∧ t < m + (b - m)
 ·rw [if_pos h]; congr 1; omega
 ·rw [if_neg h, if_neg (by omega)]⟩
theorem Rot.id_right {a m : Nat} (d : Array α) : Rot a m m d d := ⟨rfl, fun t => by
 unfold rotG
 rw [if_neg (by omega)]
 by_cases h : a + (m - m) ≤ t ∧ t < m
 ·rw [if_pos h]; congr 1; omega
 ·rw [if_neg h]⟩
theorem Rot.perm {a s m e b : Nat} {d d' : Array α} (h : Rot s m e d d') (h1 : a ≤ s) (h2 : s ≤ m) (h3 : m ≤ e) (h4 : e ≤ b) (h5 : b ≤ d.size) : PermIn a b d d' := by
 have hz := h.size
 refine permIn_mono d d' s e a b h1 h4 h5 ⟨hz, fun i hi => ?_, ?_⟩
 ·rw [h.at_]; unfold rotG; rw [if_neg (by omega), if_neg (by omega)]
 ·have e1 : (d'.extract s e).toList = (d.extract m e).toList ++ (d.extract s m).toList := by
   apply List.ext_getElem
   ·simp; omega
   ·intro k hk1 hk2
    have hk1' : k < e - s := by simp at hk1; omega
    have hd : s + k < d'.size := by omega
    have hx := h.at_ (s + k)
    rw [getElem!_pos d' (s + k) hd] at hx
    simp only [Array.getElem_toList, Array.getElem_extract]
    rw [hx]
    unfold rotG
    rw [List.getElem_append]
    simp only [Array.length_toList, Array.size_extract, Array.getElem_toList, Array.getElem_extract]
    by_cases hc : k < e - m
    ·rw [if_pos (by omega), dif_pos (by omega), getElem!_pos d _ (by omega)]
     congr 1; omega
    ·rw [if_neg (by omega), if_pos (by omega), dif_neg (by omega), getElem!_pos d _ (by omega)]
     congr 1; omega
  have e2 : (d.extract s e).toList = (d.extract s m).toList ++ (d.extract m e).toList := by
   apply List.ext_getElem
   ·simp; omega
   ·intro k hk1 hk2
    have hk1' : k < e - s := by simp at hk1; omega
    rw [List.getElem_append]
    simp only [Array.getElem_toList, Array.getElem_extract, Array.length_toList, Array.size_extract]
    by_cases hc : k < m - s
    ·rw [dif_pos (by omega)]
    ·rw [dif_neg (by omega)]
     congr 1; omega
  rw [e1, e2]
  exact List.perm_append_comm
variable {lt : α → α → Bool}
theorem a0W {a m b : Nat} {d : Array α} (h1 : SortedIn lt a m d) (h2 : SortedIn lt m b d) (h : ∀ i j, a ≤ i → i < m → m ≤ j → j < b → lt d[j]! d[i]! = false) : SortedIn lt a b d := fun i j hi hij hj => by
 by_cases c1 : j < m
 ·exact h1 i j hi hij c1
 ·by_cases c2 : m ≤ i
  ·exact h2 i j c2 hij hj
  ·exact h i j hi (by omega) (by omega) hj
theorem dD (hS : SWO lt) {a m : Nat} {d : Array α} (h : SortedIn lt a m d) {i j : Nat} (h1 : a ≤ i) (h2 : i ≤ j) (h3 : j < m) : lt d[j]! d[i]! = false := by
 rcases Nat.lt_or_ge i j with c | c
 ·exact h i j h1 c h3
 ·obtain rfl : i = j := by omega
  exact hS.irrefl _
structure Parts (lt : α → α → Bool) (a s m e b : Nat) (d : Array α) : Prop where
 la : a ≤ s
 sm : s ≤ m
 me : m ≤ e
 eb : e ≤ b
 lo : s = a ∨ e = b ∨ lt d[e]! d[s - 1]! = false
 hi : s = m ∨ e = m ∨ lt d[e - 1]! d[s]! = true
theorem Parts.cross (hS : SWO lt) {a s m e b : Nat} {d : Array α} (h : Parts lt a s m e b d) (h1 : SortedIn lt a m d) (h2 : SortedIn lt m b d) :
    (∀ i j, a ≤ i → i < s → e ≤ j → j < b → lt d[j]! d[i]! = false) ∧ (∀ i j, m ≤ i → i < e → s ≤ j → j < m → lt d[j]! d[i]! = false) := by
 obtain ⟨q1, q2, q3, q4, q5, q6⟩ := h
 constructor
 ·intro i j a1 a2 a3 a4
  have q5' : lt d[e]! d[s - 1]! = false := by rcases q5 with q | q | q <;> first | omega | exact q
  have x1 : lt d[j]! d[e]! = false := dD hS h2 (by omega) a3 a4
  have x2 : lt d[s - 1]! d[i]! = false := dD hS h1 a1 (by omega) (by omega)
  exact hS.ntrans _ _ _ (hS.ntrans _ _ _ x1 q5') x2
 ·intro i j a1 a2 a3 a4
  have q6' : lt d[e - 1]! d[s]! = true := by rcases q6 with q | q | q <;> first | omega | exact q
  have x1 : lt d[j]! d[s]! = false := dD hS h1 (by omega) a3 a4
  have x2 : lt d[e - 1]! d[i]! = false := dD hS h2 a1 (by omega) (by omega)
  exact hS.ntrans _ _ _ (hS.ntrans _ _ _ x1 (hS.asymmA q6')) x2
structure Turned (lt : α → α → Bool) (a s mid e b : Nat) (d : Array α) : Prop where
 r1 : SortedIn lt a s d
 r2 : SortedIn lt s mid d
 r3 : SortedIn lt mid e d
 r4 : SortedIn lt e b d
 c : ∀ i j, a ≤ i → i < mid → mid ≤ j → j < b → lt d[j]! d[i]! = false
theorem Parts.turned (hS : SWO lt) {a s m e b mid : Nat} {d d' : Array α} (h : Parts lt a s m e b d) (h1 : SortedIn lt a m d) (h2 : SortedIn lt m b d) (hr : Rot s m e d d') (hm : mid + m = s + e) : Turned lt a s mid e b d' := by
 obtain ⟨c1, c2⟩ := h.cross hS h1 h2
 obtain ⟨q1, q2, q3, q4, -, -⟩ := h
 have g1 : ∀ t, t < s ∨ e ≤ t → d'[t]! = d[t]! := fun t ht => by rw [hr.at_]; unfold rotG; rw [if_neg (by omega), if_neg (by omega)]
 have g2 : ∀ t, s ≤ t → t < mid → d'[t]! = d[m + (t - s)]! := fun t t1 t2 => by rw [hr.at_]; unfold rotG; rw [if_pos (by omega)]
 have g3 : ∀ t, mid ≤ t → t < e → d'[t]! = d[s + (t - mid)]! := fun t t1 t2 => by
  rw [hr.at_]; unfold rotG; rw [if_neg (by omega), if_pos (by omega)]; congr 1; omega
 refine ⟨fun i j a1 a2 a3 => ?_, fun i j a1 a2 a3 => ?_, fun i j a1 a2 a3 => ?_, fun i j a1 a2 a3 => ?_, fun i j a1 a2 a3 a4 => ?_⟩
 ·rw [g1 i (by omega), g1 j (by omega)]; exact h1 i j a1 a2 (by omega)
 ·rw [g2 i a1 (by omega), g2 j (by omega) a3]; exact h2 _ _ (by omega) (by omega) (by omega)
 ·rw [g3 i a1 (by omega), g3 j (by omega) a3]; exact h1 _ _ (by omega) (by omega) (by omega)
 ·rw [g1 i (by omega), g1 j (by omega)]; exact h2 i j (by omega) a2 a3
 ·by_cases b1 : i < s <;> by_cases b2 : e ≤ j
  ·rw [g1 i (by omega), g1 j (by omega)]; exact c1 i j a1 b1 b2 a4
  ·rw [g1 i (by omega), g3 j a3 (by omega)]; exact h1 _ _ a1 (by omega) (by omega)
  ·rw [g2 i (by omega) a2, g1 j (by omega)]; exact h2 _ _ (by omega) (by omega) a4
  ·rw [g2 i (by omega) a2, g3 j a3 (by omega)]; exact c2 _ _ (by omega) (by omega) (by omega) (by omega)
theorem Turned.done {a s mid e b : Nat} {d d1 d2 : Array α} (h : Turned lt a s mid e b d) (ham : a ≤ mid) (hmb : mid ≤ b) (hb : b ≤ d.size) (p1 : PermIn a mid d d1) (s1 : SortedIn lt a mid d1) (p2 : PermIn mid b d1 d2) (s2 : SortedIn lt mid b d2) : PermIn a b d d2 ∧ SortedIn lt a b d2 := by
 have z1 := p1.1
 have z2 := p2.1
 refine ⟨permIn_trans _ _ _ a b (permIn_mono d d1 a mid a b (by omega) hmb hb p1) (permIn_mono d1 d2 mid b a b ham (by omega) (by omega) p2), ?_⟩
 have s1' : SortedIn lt a mid d2 := s1.congr fun i hi1 hi2 => p2.2.1 i (by omega)
 refine a0W s1' s2 fun i j a1 a2 a3 a4 => ?_
 rw [p2.2.1 i (by omega)]
 have x1 : ∀ k, mid ≤ k → k < b → ∀ t, a ≤ t → t < mid → lt d[k]! d1[t]! = false := fun k k1 k2 =>
  permIn_all d d1 a mid (fun x => lt d[k]! x = false) (by omega) p1 (fun t t1 t2 => h.c t k t1 t2 k1 k2)
 have x2 : ∀ t, mid ≤ t → t < b → lt d1[t]! d1[i]! = false := fun t t1 t2 => by
  rw [p1.2.1 t (by omega)]; exact x1 t t1 t2 i a1 a2
 exact permIn_all d1 d2 mid b (fun x => lt x d1[i]! = false) (by omega) p2 x2 j a3 a4
theorem a0X (hS : SWO lt) {a i b : Nat} {d d' : Array α} (h2 : SortedIn lt (a + 1) b d) (hi1 : a + 1 ≤ i) (hi2 : i ≤ b) (hb : b ≤ d.size) (lo : i = a + 1 ∨ lt d[i - 1]! d[a]! = true) (hi : i = b ∨ lt d[i]! d[a]! = false) (hr : Rot a (a + 1) i d d') : PermIn a b d d' ∧ SortedIn lt a b d' := by
 refine ⟨hr.perm (Nat.le_refl _) (by omega) hi1 hi2 hb, ?_⟩
 have g1 : ∀ t, i ≤ t → d'[t]! = d[t]! := fun t ht => by rw [hr.at_]; unfold rotG; rw [if_neg (by omega), if_neg (by omega)]
 have g2 : ∀ t, a ≤ t → t + 1 < i → d'[t]! = d[t + 1]! := fun t t1 t2 => by rw [hr.at_]; unfold rotG; rw [if_pos (by omega)]; congr 1; omega
 have g3 : d'[i - 1]! = d[a]! := by rw [hr.at_]; unfold rotG; rw [if_neg (by omega), if_pos (by omega)]; congr 1; omega
 have l1 : ∀ t, a + 1 ≤ t → t < i → lt d[a]! d[t]! = false := fun t t1 t2 => by
  have q : lt d[i - 1]! d[a]! = true := by rcases lo with q | q <;> first | omega | exact q
  cases hc : lt d[a]! d[t]! with
  | false => rfl
  | true =>
   have := hS.trans _ _ _ q hc
   rw [dD hS h2 t1 (show t ≤ i - 1 by omega) (by omega)] at this
   cases this
 have l2 : ∀ t, i ≤ t → t < b → lt d[t]! d[a]! = false := fun t t1 t2 => by
  have q : lt d[i]! d[a]! = false := by rcases hi with q | q <;> first | omega | exact q
  exact hS.ntrans _ _ _ (dD hS h2 hi1 t1 t2) q
 intro x y x1 xy y1
 by_cases c1 : i ≤ x
 ·rw [g1 x c1, g1 y (by omega)]; exact h2 _ _ (by omega) xy y1
 ·by_cases c2 : x + 1 < i
  ·rw [g2 x x1 c2]
   by_cases c3 : i ≤ y
   ·rw [g1 y c3]; exact h2 _ _ (by omega) (by omega) y1
   ·by_cases c4 : y + 1 < i
    ·rw [g2 y (by omega) c4]; exact h2 _ _ (by omega) (by omega) (by omega)
    ·obtain rfl : y = i - 1 := by omega
     rw [g3]; exact l1 _ (by omega) (by omega)
  ·obtain rfl : x = i - 1 := by omega
   rw [g3, g1 y (by omega)]; exact l2 y (by omega) y1
theorem a2e (hS : SWO lt) {a i m : Nat} {d d' : Array α} (h1 : SortedIn lt a m d) (hi1 : a ≤ i) (hi2 : i ≤ m) (hb : m < d.size) (lo : i = a ∨ lt d[m]! d[i - 1]! = false) (hi : i = m ∨ lt d[m]! d[i]! = true) (hr : Rot i m (m + 1) d d') : PermIn a (m + 1) d d' ∧ SortedIn lt a (m + 1) d' := by
 refine ⟨hr.perm hi1 hi2 (by omega) (Nat.le_refl _) (by omega), ?_⟩
 have g1 : ∀ t, t < i → d'[t]! = d[t]! := fun t ht => by rw [hr.at_]; unfold rotG; rw [if_neg (by omega), if_neg (by omega)]
 have g2 : ∀ t, i < t → t < m + 1 → d'[t]! = d[t - 1]! := fun t t1 t2 => by rw [hr.at_]; unfold rotG; rw [if_neg (by omega), if_pos (by omega)]; congr 1; omega
 have g3 : d'[i]! = d[m]! := by rw [hr.at_]; unfold rotG; rw [if_pos (by omega)]; congr 1; omega
 have l1 : ∀ t, i ≤ t → t < m → lt d[t]! d[m]! = false := fun t t1 t2 => by
  have q : lt d[m]! d[i]! = true := by rcases hi with q | q <;> first | omega | exact q
  exact hS.ntrans _ _ _ (dD hS h1 hi1 t1 t2) (hS.asymmA q)
 have l2 : ∀ t, a ≤ t → t < i → lt d[m]! d[t]! = false := fun t t1 t2 => by
  have q : lt d[m]! d[i - 1]! = false := by rcases lo with q | q <;> first | omega | exact q
  exact hS.ntrans _ _ _ q (dD hS h1 t1 (by omega) (by omega))
 intro x y x1 xy y1
 by_cases c1 : y < i
 ·rw [g1 x (by omega), g1 y c1]; exact h1 _ _ x1 xy (by omega)
 ·by_cases c2 : y = i
  ·subst c2
   rw [g3, g1 x (by omega)]; exact l2 x x1 xy
  ·rw [g2 y (by omega) y1]
   by_cases c3 : x < i
   ·rw [g1 x c3]; exact h1 _ _ x1 (by omega) (by omega)
   ·by_cases c4 : x = i
    ·subst c4; rw [g3]; exact l1 _ (by omega) (by omega)
    ·rw [g2 x (by omega) (by omega)]; exact h1 _ _ (by omega) (by omega) (by omega)
end Go.Sym
end
