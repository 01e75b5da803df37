/- Joined texts. -/
import Derived.Test.YtakopfjdmmnjcaaGreatZ06
import Derived.Test.YtakopfjdmmnjcaaGreatZ07
import Derived.Test.YtakopfjdmmnjcaaGreatZ18
import Derived.Test.YtakopfjdmmnjcaaGreatZ04
import Derived.Test.YtakopfjdmmnjcaaGreatZ12
import Derived.Test.YtakopfjdmmnjcaaGreatZ09
import Derived.Test.YtakopfjdmmnjcaaGreatZ08
import Derived.Sort.LotA
import Derived.Sort.WalkA
set_option linter.all false
section
set_option maxRecDepth 100000
set_option maxHeartbeats 4000000
namespace Go.Proofs.YtakopfjdmmnjcaaGreat
open Go Go.Sx Go.RowKit Go.Proofs
theorem oF (n : Int) : FnC Tryz.prog 148 [oi n] (ob false) := by
 refine ent Tryz.func148 rfl Tryz.call148 rfl (fun C => ?_); simp only [go_sem, st0, Tryz.ntmps148]
 have q0 := @decide_true; refine jW ?_
 exact aA ⟨⟨_, rfl, by simp only [go_sem, decide_true]⟩, trivial⟩
theorem wZ (n : ByteArray) : FnC Tryz.prog 149 [os n] (ob false) := by
 refine ent Tryz.func149 rfl Tryz.call149 rfl (fun C => ?_); simp only [go_sem, st0, Tryz.ntmps149]
 have q0 := @decide_true; refine jW ?_
 exact aA ⟨⟨_, rfl, by simp only [go_sem, decide_true]⟩, trivial⟩
def cmpI (a b : Int) : Int := c3 (decide (a < b)) (decide (b < a)) 0
def cmpS (a b : ByteArray) : Int := c3 (dW a b) (dW b a) 0
theorem a1D (a b : Int) : FnC Tryz.prog 118 [oi a, oi b] (oi (cmpI a b)) := by
 refine ent Tryz.func118 rfl Tryz.call118 rfl (fun C => ?_); simp only [go_sem, st0, Tryz.ntmps118]
 by_cases h1 : a < b
 ·have e : cmpI a b = -1 := by simp [cmpI, c3, h1]
  have q0 := @h1; have q1 := @decide_true; refine zT (oF a) (oF b) ?_
  exact aA ⟨⟨_, rfl, by simp only [go_sem, e]⟩, trivial⟩
 ·by_cases h2 : b < a
  ·have e : cmpI a b = 1 := by simp [cmpI, c3, h1, h2]
   have q0 := @h1; have q1 := @h2; have q2 := @decide_true; have q3 := @decide_false; refine a2G (oF a) (oF b) ?_
   exact aA ⟨⟨_, rfl, by simp only [go_sem, e]⟩, trivial⟩
  ·have e : cmpI a b = 0 := by simp [cmpI, c3, h1, h2]
   have q0 := @h1; have q1 := @h2; have q2 := @decide_false; refine a5E (oF a) (oF b) ?_
   exact aA ⟨⟨_, rfl, by simp only [go_sem, e]⟩, trivial⟩
theorem a7Y {a b : ByteArray} (h : dW a b = false) : dW b a = !decide (a = b) := by
 by_cases e : a = b
 ·subst e; simp [h]
 ·simp only [e, decide_false, Bool.not_false]
  exact (oC _ _).2 (a6e (fun k => by rw [(oC _ _).2 k] at h; cases h) e)
theorem a7Z (a b : ByteArray) : FnC Tryz.prog 119 [os a, os b] (oi (cmpS a b)) := by
 refine ent Tryz.func119 rfl Tryz.call119 rfl (fun C => ?_); simp only [go_sem, st0, Tryz.ntmps119]
 cases h1 : dW a b with
 | true =>
  have e : cmpS a b = -1 := by simp [cmpS, c3, h1]
  have q0 := @h1; refine b0S (wZ a) (wZ b) ?_
  exact aA ⟨⟨_, rfl, by simp only [go_sem, e]⟩, trivial⟩
 | false =>
  have e : cmpS a b = if (!decide (a = b)) = true then 1 else 0 := by rw [← a7Y h1]; cases h3 : dW b a <;> simp [cmpS, c3, h1, h3]
  have q0 := @h1; refine b0S (wZ a) (wZ b) ?_
  refine cnd rfl (fun h3 => ?_) (fun h3 => ?_)
  ·rw [if_pos h3] at e
   refine aD ?_
   exact aA ⟨⟨_, rfl, by simp only [go_sem, e]⟩, trivial⟩
  ·rw [if_neg (by rw [h3]; simp)] at e
   refine aD ?_
   exact aA ⟨⟨_, rfl, by simp only [go_sem, e]⟩, trivial⟩
def orI : List Int → Int
 | [] => 0
 | x :: xs => if x = 0 then orI xs else x
theorem b6E (l : List Int) (hl : l.length ≤ 1000) : FnC Tryz.prog 117 [.o (.d (.sl (l.map gG)))] (oi (orI l)) := by
 generalize hg : orI l = res
 refine ent Tryz.func117 rfl Tryz.call117 rfl (fun C => ?_); simp only [go_sem, st0, Tryz.ntmps117]
 refine aD ?_
 refine aY (α := Nat) (fun k => [(8, oi k)]) (fun _ => []) (fun k => k ≤ l.length ∧ orI (l.drop k) = res) (fun k => l.length - k) 0 (fun _ => ?_) ?_ ?_ (fun k hk => ?_)
 ·simp only [go_sem]
 ·simp only [go_sem]; simp
 ·simp [hg]
 ·obtain ⟨hk, hq⟩ := hk
  simp only [go_sem]
  refine aD ?_
  refine cnd rfl (fun h => ?_) (fun h => ?_)
  ·simp only [decide_eq_true_eq, Int.ofNat_lt] at h
   rw [List.drop_eq_getElem_cons h, orI] at hq
   by_cases h1 : l[k] = 0
   ·rw [if_pos h1] at hq
    have q0 := @h; have q1 := @h1; have q2 := @decide_true; refine jQ ?_
    refine aF (k + 1) ?_ ?_ ?_
    ·simp only [go_sem]; simp
    ·exact ⟨h, hq⟩
    ·omega
   ·rw [if_neg h1] at hq
    have q0 := @h; have q1 := @h1; have q2 := @decide_false; refine jQ ?_
    exact aA ⟨⟨_, rfl, by simp only [go_sem, hq]⟩, trivial⟩
  ·simp only [decide_eq_false_iff_not] at h
   have e : k = l.length := by omega
   subst e
   simp only [List.drop_length, orI] at hq
   subst hq
   refine aD ?_
   exact aA ⟨⟨_, rfl, by simp only [go_sem]⟩, trivial⟩
theorem b4W (a b : TValue) : orI [cmpI a.fKind b.fKind, cmpI a.fInt b.fInt, cmpS a.fStr b.fStr] = cmpV a b := by
 simp only [orI, cmpV, cmpI, cmpS, c3]
 by_cases h1 : a.fKind < b.fKind
 ·simp [h1]
 ·by_cases h2 : b.fKind < a.fKind
  ·simp [h1, h2]
  ·by_cases h3 : a.fInt < b.fInt
   ·simp [h1, h2, h3]
   ·by_cases h4 : b.fInt < a.fInt
    ·simp [h1, h2, h3, h4]
    ·simp only [h1, h2, h3, h4, decide_false, Bool.false_eq_true, if_false, if_true]
     by_cases h5 : dW a.fStr b.fStr = true <;> by_cases h6 : dW b.fStr a.fStr = true <;> simp [h5, h6]
theorem a3y (a b : TValue) : FnC Tryz.prog 78 [kF a, kF b] (oi (cmpV a b)) := by
 have hO := b6E [cmpI a.fKind b.fKind, cmpI a.fInt b.fInt, cmpS a.fStr b.fStr] (by simp)
 rw [b4W] at hO
 simp only [List.map_cons, List.map_nil, gG] at hO
 have h1 := a1D a.fKind b.fKind
 have h2 := a1D a.fInt b.fInt
 have h3 := a7Z a.fStr b.fStr
 generalize cmpI a.fKind b.fKind = k1 at hO h1
 generalize cmpI a.fInt b.fInt = k2 at hO h2
 generalize cmpS a.fStr b.fStr = k3 at hO h3
 generalize cmpV a b = k4 at hO
 refine ent Tryz.func78 rfl Tryz.call78 rfl (fun C => ?_); simp only [go_sem, st0, Tryz.ntmps78]
 have qH := trivial; repeat' (with_reducible first | refine nY ?_ | (refine mX ?_; try simp only [go_sem]) | refine kD ?_ | (apply rE [4,9,14,15,16] [] [0,1,2,3,5,6,7,8,10,11,12,13] [0,1,2,3,5,6,7,8,10,11,12,13] ((.c 4 [] [5,6,7,8,10,11,12,13] (.c 9 [] [10,11,12,13] (.c 14 [] [] (.c 15 [] [] (.c 16 [17] [17] .n .n) .n) .n) .n) .n)) (by simp only [go_sem]; rfl) (by simp only [go_sem]; rfl) (by simp only [go_sem]; rfl) (by decide +kernel); (focus simp only [go_sem]; done)) | exact bJ | refine aP (uX ?_) ?_ | refine aQ (aX ?_) ?_ | refine aR (aX ?_) ?_ | exact bY | exact oH | (refine uA ?_; simp only [go_sem]; (repeat' first | omega | refine And.intro ?_ ?_); done) | refine rD ?_ | refine cP h1 ?_ | refine cP h2 ?_ | refine cP h3 ?_ | refine cP hO ?_ | refine aO ?_ | fail)
 exact aA ⟨⟨_, rfl, by simp only [go_sem]⟩, trivial⟩
theorem a3z (a b : TValue) : FnC Tryz.prog 87 [kF a, kF b] (oi (cmpV a b)) := by
 refine ent Tryz.func87 rfl Tryz.call87 rfl (fun C => ?_); simp only [go_sem, st0, Tryz.ntmps87]
 by_cases h1 : a.fKind < b.fKind
 ·have e : cmpV a b = -1 := by simp [cmpV, c3, h1]
  have q0 := @h1; have q1 := @decide_true; refine fM ?_
  exact aA ⟨⟨_, rfl, by simp only [go_sem, e]⟩, trivial⟩
 by_cases h2 : b.fKind < a.fKind
 ·have e : cmpV a b = 1 := by simp [cmpV, c3, h1, h2]
  have q0 := @h1; have q1 := @h2; have q2 := @decide_true; have q3 := @decide_false; refine jX ?_
  exact aA ⟨⟨_, rfl, by simp only [go_sem, e]⟩, trivial⟩
 by_cases h3 : a.fInt < b.fInt
 ·have e : cmpV a b = -1 := by simp [cmpV, c3, h1, h2, h3]
  have q0 := @h1; have q1 := @h2; have q2 := @h3; have q3 := @decide_true; have q4 := @decide_false; refine tO ?_
  exact aA ⟨⟨_, rfl, by simp only [go_sem, e]⟩, trivial⟩
 by_cases h4 : b.fInt < a.fInt
 ·have e : cmpV a b = 1 := by simp [cmpV, c3, h1, h2, h3, h4]
  have q0 := @h1; have q1 := @h2; have q2 := @h3; have q3 := @h4; have q4 := @decide_true; have q5 := @decide_false; refine a6S ?_
  exact aA ⟨⟨_, rfl, by simp only [go_sem, e]⟩, trivial⟩
 cases h5 : dW a.fStr b.fStr with
 | true =>
  have e : cmpV a b = -1 := by simp [cmpV, c3, h1, h2, h3, h4, h5]
  have q0 := @h1; have q1 := @h2; have q2 := @h3; have q3 := @h4; have q4 := @h5; have q5 := @decide_false; refine a6S ?_
  exact aA ⟨⟨_, rfl, by simp only [go_sem, e]⟩, trivial⟩
 | false =>
  have e : cmpV a b = if (!decide (a.fStr = b.fStr)) = true then 1 else 0 := by rw [← a7Y h5]; cases h7 : dW b.fStr a.fStr <;> simp [cmpV, c3, h1, h2, h3, h4, h5, h7]
  have q0 := @h1; have q1 := @h2; have q2 := @h3; have q3 := @h4; have q4 := @h5; have q5 := @decide_false; refine a6S ?_
  refine cnd rfl (fun h7 => ?_) (fun h7 => ?_)
  ·rw [if_pos h7] at e
   refine aD ?_
   exact aA ⟨⟨_, rfl, by simp only [go_sem, e]⟩, trivial⟩
  ·rw [if_neg (by rw [h7]; simp)] at e
   refine aD ?_
   exact aA ⟨⟨_, rfl, by simp only [go_sem, e]⟩, trivial⟩
abbrev cO := TGroup × Value
@[go_sem] def pO (p : cO) : List D := [iv p.1.fValue.fKind, iv p.1.fValue.fInt, sv p.1.fValue.fStr, .v p.2]
@[go_sem] def gO (p : cO) : SV := .g [.d (iv p.1.fValue.fKind), .d (iv p.1.fValue.fInt), .d (sv p.1.fValue.fStr), .d (.v p.2)]
def wI (p : cO) : Value × List (List Value) := (p.2, p.1.fIDs.map fun i => [Value.int .i64 i])
def itO (p : cO) : List Value × Value × List (List Value) := ([.int .i64 p.1.fValue.fKind, .int .i64 p.1.fValue.fInt, .string p.1.fValue.fStr], p.2, p.1.fIDs.map fun i => [Value.int .i64 i])
theorem b0w (p : cO) : qX (itO p) = fZ p.1 := by
 simp only [qX, itO, fZ, List.map_map, List.map_cons, List.map_nil, List.cons_append, List.nil_append]
 congr 4
def fB (s : TStore) (ids : List Int) (name : ByteArray) : List (TValue × Int) := ids.map fun id => (getAttr name (jP id s.fFiles).fAttrs, id)
def pQ (v : TValue) (p : cO) : Bool := xN p.1.fValue v
theorem sO (a b : TValue) : xN a b = true ↔ a = b := by
 unfold xN
 simp only [Bool.and_eq_true, decide_eq_true_eq]
 constructor
 ·rintro ⟨h1, h2, h3⟩; exact a2i h1 h2 h3
 ·rintro rfl; exact ⟨rfl, rfl, rfl⟩
theorem a7S (v : TValue) (id : Int) (z' : Value) : ∀ {its : List cO} {k : Nat} (hk : k < its.length), pQ v its[k] = true → (∀ j (hj : j < its.length), j < k → pQ v its[j] = false) →
    mG (its.map (·.1)) (v, id) = (its.set k (⟨its[k].1.fValue, its[k].1.fIDs ++ [id]⟩, z')).map (·.1)
 | [], k, hk, _, _ => by simp at hk
 | p :: its, 0, hk, h1, _ => by
  have e := (sO _ _).1 h1
  simp only [List.getElem_cons_zero] at e
  simp [mG, e]
 | p :: its, k + 1, hk, h1, h2 => by
  have h0 := h2 0 (by simp) (by omega)
  simp only [List.getElem_cons_zero] at h0
  have hne : p.1.fValue ≠ v := fun e => by rw [pQ, (sO _ _).2 e] at h0; cases h0
  simp only [List.map_cons, mG, if_neg hne, List.set_cons_succ, List.getElem_cons_succ]
  have h2' : ∀ j (hj : j < its.length), j < k → pQ v its[j] = false := fun j hj hjk => by
   have := h2 (j + 1) (by simp; omega) (by omega)
   rwa [List.getElem_cons_succ] at this
  rw [a7S v id z' (by simpa using hk) (by rwa [List.getElem_cons_succ] at h1) h2']
theorem a7T (v : TValue) (id : Int) : ∀ {its : List cO}, (∀ p ∈ its, pQ v p = false) → mG (its.map (·.1)) (v, id) = its.map (·.1) ++ [⟨v, [id]⟩]
 | [], _ => rfl
 | p :: its, h => by
  have h0 := h p List.mem_cons_self
  have hne : p.1.fValue ≠ v := fun e => by rw [pQ, (sO _ _).2 e] at h0; cases h0
  simp only [List.map_cons, mG, if_neg hne, List.cons_append]
  rw [a7T v id fun q hq => h q (List.mem_cons_of_mem _ hq)]
theorem a7U (x : TValue × Int) : ∀ l : List TGroup, bI (fun g => g.fIDs.length) (mG l x) = bI (fun g => g.fIDs.length) l + 1 ∧ (mG l x).length ≤ l.length + 1
 | [] => by simp [mG, bI]
 | g :: l => by
  have ih := a7U x l
  unfold mG
  split
  ·simp [bI]; omega
  ·simp [bI]; omega
theorem a7V (xs : List (TValue × Int)) : ∀ l : List TGroup, bI (fun g => g.fIDs.length) (xs.foldl mG l) = bI (fun g => g.fIDs.length) l + xs.length ∧ (xs.foldl mG l).length ≤ l.length + xs.length := by
 induction xs with
 | nil => intro l; simp
 | cons x xs ih =>
  intro l
  have h1 := a7U x l
  have h2 := ih (mG l x)
  simp only [List.foldl_cons, List.length_cons]
  omega
end Go.Proofs.YtakopfjdmmnjcaaGreat
end
section
set_option maxRecDepth 100000
set_option maxHeartbeats 4000000
namespace Go.Proofs.YtakopfjdmmnjcaaGreat
open Go Go.Sx Go.RowKit Go.Proofs Go.Sort
instance inhO : Inhabited cO := ⟨(⟨⟨0, 0, ⟨#[]⟩⟩, []⟩, .slice none 0 0)⟩
theorem b6D {f ty sz : Nat} {fn : Func} {c : Code} {rows rows' : List (List D)} {args : List SV} (hf : Tryz.prog.funcs[f]? = some fn) (hb : fn.body = some c) (hcall : ∀ x w, (callFunc f x).run Tryz.prog w = .ok (.enter f x) w) (hres : fn.results = #[])
    (hfl : fV rows = true) (hfl' : fV rows' = true) (hlen : rows'.length = rows.length) (h0 : rows = [] → FnC Tryz.prog f (.o (.d (.sl [])) :: args) (.t []))
    (h : rows ≠ [] → ∀ (C : Ctx) (y : Value), WP Tryz.prog C c (bZ Tryz.prog C [] (b5L ty sz rows' y)) (stI ty sz rows y args fn.ntmps)) : FnI Tryz.prog f ty sz rows args true rows' := FnI.of_wp (eqk := eqk) ttOK hf hb hcall hres hfl hfl' hlen h0 h
attribute [go_sem] stI
def gX (d : Array cO) : List (List D) := d.toList.map pO
theorem mF (d : Array cO) : fV (gX d) = true := by
 unfold fV gX
 simp [pO, isV]
theorem kR (d : Array cO) : (gX d).length = d.size := by simp [gX]
theorem a1a {d : Array cO} (h : gX d = []) : d.size = 0 := by rw [← kR, h]; rfl
theorem mZ (d : Array cO) (i : Nat) (h : i < d.toList.length) : d.toList[i] = d[i]! := by
 rw [getElem!_pos d i (by simpa using h)]; rfl
theorem b1D (d : Array cO) (i j : Nat) (hi : i < d.toList.length) (hj : j < d.toList.length) : ((d.toList.map pO).set i (pO d.toList[j])).set j (pO d.toList[i]) = gX (swp d i j) := by
 unfold gX swp
 rw [Array.toList_setIfInBounds, Array.toList_setIfInBounds, List.map_set, List.map_set, mZ d i hi, mZ d j hj]
theorem b4U (L : List (List D)) {i j : Nat} (h : i ≠ j) (r : List D) : eP (L.set i r) j = eP L j := by
 simp only [eP, List.getD_eq_getElem?_getD, List.getElem?_set_ne h]
def ltO (a b : cO) : Bool := decide (cmpV a.1.fValue b.1.fValue < 0)
theorem b4V (p q : cO) : FnC Tryz.prog 77 [gO p, gO q] (oi (cmpV p.1.fValue q.1.fValue)) := by
 refine ent Tryz.func77 rfl Tryz.call77 rfl (fun C => ?_); simp only [go_sem, st0, Tryz.ntmps77]
 refine iZ (a3y p.1.fValue q.1.fValue) ?_
 exact aA ⟨⟨_, rfl, by simp only [go_sem]⟩, trivial⟩
theorem xW (a : Nat) : ∀ (j : Nat) (d : Array cO), (insInner ltO a j d).size = d.size
 | 0, d => rfl
 | j + 1, d => by
  unfold insInner
  split
  ·rw [xW a j, swp_size]
  ·rfl
theorem a3x (a b : Nat) : ∀ (n i : Nat) (d : Array cO), b - i = n → (insOuter ltO a b i d).size = d.size
 | 0, i, d, h => by rw [insOuter_stop _ _ _ _ _ (by omega)]
 | n + 1, i, d, h => by rw [insOuter_go _ _ _ _ _ (by omega), a3x a b n (i + 1) _ (by omega), xW]
theorem a1C : FnC Tryz.prog 146 [.o (.d (.sl [])), oi 0, oi 0, .o (.f 77 [])] (.t []) := by
 refine ent Tryz.func146 rfl Tryz.call146 rfl (fun C => ?_); simp only [go_sem, st0, Tryz.ntmps146]
 refine aD ?_
 refine aY (α := Unit) (fun _ => [(8, oi 1)]) (fun _ => []) (fun _ => True) (fun _ => 0) () (fun _ => ?_) ?_ trivial (fun _ _ => ?_)
 ·simp only [go_sem]
 ·simp only [go_sem]; simp
 ·simp only [go_sem]
  refine aD ?_
  exact uZ ⟨⟨_, rfl, by simp only [go_sem]⟩, by simp [cK]⟩
theorem yR (d : Array cO) (a b : Nat) (hab : a ≤ b) (hb : b ≤ d.size) (hsz : d.size ≤ 1048576) :
    FnI Tryz.prog 146 75 4 (gX d) [oi a, oi b, .o (.f 77 [])] true (gX (Sort.insertionSort ltO d a b)) := by
 refine b6D Tryz.func146 rfl Tryz.call146 rfl (mF d) (mF _) (by rw [kR, kR]; exact a3x a b _ _ d rfl) (fun h0 => ?_) (fun hne C y => ?_)
 ·have h1 := a1a h0
  have ha : a = 0 := by omega
  have hb' : b = 0 := by omega
  subst ha hb'
  exact a1C
 ·simp only [go_sem, Tryz.ntmps146]
  refine aD ?_
  refine aY (α := Nat × Array cO) (fun x => [(8, oi x.1)]) (fun x => [(0, .row 75 4 (gX x.2) true)]) (fun x => a < x.1 ∧ x.1 ≤ b + 1 ∧ x.2.size = d.size ∧ insOuter ltO a b x.1 x.2 = insOuter ltO a b (a + 1) d) (fun x => b + 1 - x.1) (a + 1, d) (fun _ => ?_) ?_ ?_ (fun x hx => ?_)
  ·simp only [go_sem]
  ·simp only [go_sem]; simp
  ·exact ⟨by simp, by simp only; omega, rfl, rfl⟩
  ·obtain ⟨i, dk⟩ := x
   obtain ⟨h1, h2, h3, h4⟩ := hx
   simp only at h1 h2 h3 h4
   simp only [go_sem]
   by_cases hlt : i < b
   ·have hlt' : ((i : Int) < (b : Int)) = True := by simp [hlt]
    have q0 := @hlt'; have q1 := @decide_true; refine fM ?_
    refine aY (α := Nat × Array cO) (fun x => [(9, oi x.1)]) (fun x => [(0, .row 75 4 (gX x.2) true)]) (fun x => a ≤ x.1 ∧ x.1 ≤ i ∧ x.2.size = d.size ∧ insInner ltO a x.1 x.2 = insInner ltO a i dk) (fun x => x.1) (i, dk) (fun _ => ?_) ?_ ?_ (fun x hx => ?_)
    ·simp only [go_sem]
    ·simp only [go_sem]; simp
    ·exact ⟨by simp only; omega, by simp, h3, rfl⟩
    ·obtain ⟨j, dj⟩ := x
     obtain ⟨k1, k2, k3, k4⟩ := hx
     simp only at k1 k2 k3 k4
     simp only [go_sem]
     by_cases hja : a < j
     ·obtain ⟨jp, rfl⟩ : ∃ jp, j = jp + 1 := ⟨j - 1, by omega⟩
      have hg : ((a : Int) < ((jp + 1 : Nat) : Int)) = True := by simp; omega
      have he : ((jp + 1 : Nat) : Int) - 1 = (jp : Int) := by omega
      have l1 : jp + 1 < dj.toList.length := by simp; omega
      have l0 : jp < dj.toList.length := by omega
      have hc := b4V dj.toList[jp + 1] dj.toList[jp]
      simp only [gX]
      have qH := aI @hg (aI @he (aI @l1 (aI @l0 @decide_true))); repeat' (with_reducible first | refine nY ?_ | (refine mX ?_; try simp only [go_sem, qH]) | refine kD ?_ | refine rT [16] [] ?_ | refine bX (aX ?_) (uX ?_) | refine dM (aX ?_) ?_ | (refine uA ?_; simp only [go_sem, qH]; (repeat' first | omega | refine And.intro ?_ ?_ | refine cP hc ?_ | (refine mX ?_; simp only [go_sem, qH] <;> fail)); done) | refine rD ?_ | refine cP hc ?_ | refine aO ?_ | fail)
      refine cnd (b := ltO dj.toList[jp + 1] dj.toList[jp]) rfl (fun h5 => ?_) (fun h5 => ?_)
      ·have hsw := b1D dj (jp + 1) jp l1 l0
       simp only [pO] at hsw
       have hrw : ∀ (L : List (List D)) (r : List D), eP (L.set (jp + 1) r) jp = eP L jp := fun L r => b4U L (by omega) r
       repeat' (with_reducible first | refine nY ?_ | (refine mX ?_; try simp only [go_sem, hg, he, l1, l0, decide_true, List.length_set, hrw]) | refine kO ?_ (by decide) | (apply rE [15,17] [] [0,1,2,3,4,5,6,7,8,9,10,11,12,13,14] [0,1,2,3,4,5,6,7,8,9,10,11,12,13,14] ((.c 15 [16] [2,3,4,16] (.c 17 [] [] .n .n) .n)) (by simp only [go_sem]; rfl) (by simp only [go_sem]; rfl) (by simp only [go_sem]; rfl) (by decide +kernel); (focus simp only [go_sem]; done)) | exact bJ | (refine aP (uX ?_) ?_) | refine aQ (aX ?_) ?_ | refine aR (aX ?_) ?_ | exact bY | (refine oG ?_; (focus simp only [go_sem]; done)) | (refine uA ?_; simp only [go_sem, hg, he, l1, l0, decide_true, List.length_set, hrw]; (repeat' first | omega | refine And.intro ?_ ?_); done) | refine regd (by kernel_rfl) ?_ | (refine And.intro ?_ ?_; focus omega))
       refine aF (jp, swp dj (jp + 1) jp) ?_ ?_ ?_
       ·simp only [go_sem]; simp
        exact hsw
       ·refine ⟨by simp only; omega, by simp only; omega, by rw [swp_size]; exact k3, ?_⟩
        simp only
        rw [← k4, insInner_go ltO a (jp + 1) dj hja (by rw [mZ, mZ] at h5; exact h5)]
        rfl
       ·simp only; omega
      ·refine aD ?_
       refine aF (i + 1, dj) ?_ ?_ ?_
       ·simp only [go_sem]; simp [gX]
       ·refine ⟨by simp only; omega, by simp only; omega, k3, ?_⟩
        simp only
        rw [← h4, insOuter_go _ _ _ _ _ hlt, ← k4, insInner_stop ltO a (jp + 1) dj (.inr (by rw [mZ, mZ] at h5; exact h5))]
       ·simp only; omega
     ·have hg : ((a : Int) < (j : Int)) = False := by simp; omega
      simp only [gX]
      have qH := aI @hg @decide_false; repeat' (with_reducible first | refine nY ?_ | (refine mX ?_; try simp only [go_sem, qH]) | refine kD ?_ | refine rT [16] [] ?_ | refine bX (aX ?_) (uX ?_) | refine dM (aX ?_) ?_ | exact uB | refine rD ?_ | refine aO ?_ | fail)
      refine aF (i + 1, dj) ?_ ?_ ?_
      ·simp only [go_sem]; simp [gX]
      ·refine ⟨by simp only; omega, by simp only; omega, k3, ?_⟩
       simp only
       rw [← h4, insOuter_go _ _ _ _ _ hlt, ← k4, insInner_stop ltO a j dj (.inl (by omega))]
      ·simp only; omega
   ·have hlt' : ((i : Int) < (b : Int)) = False := by simp [hlt]
    have hfin : dk = Sort.insertionSort ltO d a b := by
     unfold Sort.insertionSort
     rw [← h4, insOuter_stop _ _ _ _ _ hlt]
    subst hfin
    have q0 := @hlt'; have q1 := @decide_false; refine fM ?_
    exact qG rfl rfl
end Go.Proofs.YtakopfjdmmnjcaaGreat
end
section
set_option maxRecDepth 100000
set_option maxHeartbeats 4000000
namespace Go.Proofs.YtakopfjdmmnjcaaGreat
open Go Go.Sx Go.RowKit Go.Proofs
theorem a6h (s : TStore) (id : Int) (h : aJ s ≤ 4300000) : FnC Tryz.prog 85 [bG s, oi id] (.t [(true, (iM (jP id s.fFiles)).cells), (false, [.d (bv (decide (0 ≤ ixF id s.fFiles)))])]) := (a7n s id h).pu (by simp only [go_sem, and_self])
def lM (v : TValue) : List cO → Nat
 | [] => 0
 | p :: l => if cmpV p.1.fValue v < 0 then lM v l + 1 else 0
theorem b4T (v : TValue) : ∀ {l : List cO} {n : Nat} (h : n < l.length), lM v l = n + lM v (l.drop n) → lM v l = if cmpV l[n].1.fValue v < 0 then n + 1 + lM v (l.drop (n + 1)) else n := fun {l n} h e => by
 rw [e, List.drop_eq_getElem_cons h, lM]
 split <;> omega
theorem a7Q (v : TValue) (id : Int) (z' : Value) : ∀ {its : List cO} (h : lM v its < its.length), pQ v its[lM v its] = true →
    iL (its.map (·.1)) (v, id) = (its.set (lM v its) (⟨its[lM v its].1.fValue, its[lM v its].1.fIDs ++ [id]⟩, z')).map (·.1)
 | [], h, _ => by simp at h
 | p :: l, h, h1 => by
  by_cases hc : cmpV p.1.fValue v < 0
  ·have e : lM v (p :: l) = lM v l + 1 := by simp [lM, hc]
   simp only [e, List.getElem_cons_succ, List.set_cons_succ, List.map_cons, iL, hc, if_true] at h1 ⊢
   rw [a7Q v id z' (by rw [e] at h; simpa using h) h1]
  ·have e : lM v (p :: l) = 0 := by simp [lM, hc]
   simp only [e, List.getElem_cons_zero] at h1 ⊢
   have hv : p.1.fValue = v := (sO _ _).1 h1
   simp only [hv] at hc
   simp [iL, hc, hv]
theorem a3w (v : TValue) (id : Int) (z : Value) : ∀ {its : List cO}, (∀ h : lM v its < its.length, pQ v its[lM v its] = false) →
    iL (its.map (·.1)) (v, id) = (its.take (lM v its) ++ [((⟨v, [id]⟩ : TGroup), z)] ++ its.drop (lM v its)).map (·.1)
 | [], _ => rfl
 | p :: l, h => by
  by_cases hc : cmpV p.1.fValue v < 0
  ·have e : lM v (p :: l) = lM v l + 1 := by simp [lM, hc]
   have ih := a3w v id z (its := l) fun hl => by
    have := h (by rw [e]; simpa using hl)
    simpa only [e, List.getElem_cons_succ] using this
   simp only [e, List.map_cons, iL, hc, if_true, List.take_succ_cons, List.drop_succ_cons, List.cons_append]
   rw [ih]
  ·have e : lM v (p :: l) = 0 := by simp [lM, hc]
   have h1 := h (by rw [e]; simp)
   simp only [e, List.getElem_cons_zero] at h1
   have hv : ¬ p.1.fValue = v := fun k => by rw [pQ, (sO _ _).2 k] at h1; cases h1
   simp [iL, hc, hv, e]
theorem a7R (x : TValue × Int) : ∀ l : List TGroup, bI (fun g => g.fIDs.length) (iL l x) = bI (fun g => g.fIDs.length) l + 1 ∧ (iL l x).length ≤ l.length + 1
 | [] => by simp [iL, bI]
 | g :: l => by
  have ih := a7R x l
  unfold iL
  split
  ·simp [bI]; omega
  ·split
   ·simp [bI]; omega
   ·simp [bI]; omega
theorem b0v (xs : List (TValue × Int)) : ∀ l : List TGroup, bI (fun g => g.fIDs.length) (xs.foldl iL l) = bI (fun g => g.fIDs.length) l + xs.length ∧ (xs.foldl iL l).length ≤ l.length + xs.length := by
 induction xs with
 | nil => intro l; simp
 | cons x xs ih =>
  intro l
  have h1 := a7R x l
  have h2 := ih (iL l x)
  simp only [List.foldl_cons, List.length_cons]
  omega
def a1N (n : Nat) (v : TValue) (id : Int) (z : Value) (l : List cO) : List cO := l.take n ++ [((⟨v, [id]⟩ : TGroup), z)] ++ l.drop n
theorem a4Y (n : Nat) (v : TValue) (id : Int) (z : Value) (l : List cO) : (l.map wI ++ [(z, [[Value.int .i64 id]])]).Perm ((a1N n v id z l).map wI) := by
 have e : l.map wI ++ [(z, [[Value.int .i64 id]])] = (l ++ [((⟨v, [id]⟩ : TGroup), z)]).map wI := by simp [wI]
 rw [e]
 refine List.Perm.map _ ?_
 unfold a1N
 conv => lhs; rw [← List.take_append_drop n l]
 rw [List.append_assoc, List.append_assoc]
 exact List.Perm.append_left _ List.perm_append_comm
theorem oD (n : Nat) (v : TValue) (id : Int) (z : Value) (l : List cO) : (a1N n v id z l).map pO = (l.take n).map pO ++ [[iv v.fKind, iv v.fInt, sv v.fStr, .v z]] ++ (l.drop n).map pO := by simp [a1N, pO]
namespace Opq
theorem specGroup_ok (s : TStore) (ids : List Int) (name : ByteArray) (h : aJ s ≤ 1048576) (hi : ids.length ≤ 1048576) :
    FnC Tryz.prog 39 [bG s, .o (.d (.sl (ids.map gG))), os name] (.o (.w 75 4 (((fB s ids name).foldl iL []).map fZ))) := by
 refine ent Tryz.func39 rfl Tryz.call39 rfl (fun C => ?_); simp only [go_sem, st0, Tryz.ntmps39]
 refine aD ?_
 refine WP.sees (Sees.pool0 3 1) ?_
 simp only [go_sem]
 refine aY (α := Nat × List cO) (fun x => [(7, .o (.s 1)), (8, oi x.1), (14, .o .u)]) (fun x => [(1, .row 75 4 (x.2.map pO) true), (2, .pool 3 1 (x.2.map wI))]) (fun x => x.1 ≤ ids.length ∧ x.2.map (·.1) = ((fB s ids name).take x.1).foldl iL []) (fun x => ids.length - x.1) (0, []) (fun _ => ?_) ?_ ?_ (fun x hx => ?_)
 ·simp only [go_sem]
 ·simp only [go_sem]; simp
 ·simp
 ·obtain ⟨k, its⟩ := x
  obtain ⟨hk, hq⟩ := hx
  simp only at hk hq
  simp only [go_sem]
  refine aD ?_
  refine cnd rfl (fun h1 => ?_) (fun h1 => ?_)
  ·simp only [decide_eq_true_eq, Int.ofNat_lt] at h1
   have hfw : bA (jP ids[k] s.fFiles) ≤ 4300000 := by have := a5P ids[k] s.fFiles; unfold aJ at h; omega
   have hG := dN (jP ids[k] s.fFiles) name hfw
   have hvk : (fB s ids name).take (k + 1) = (fB s ids name).take k ++ [(getAttr name (jP ids[k] s.fFiles).fAttrs, ids[k])] := by
    rw [List.take_succ_eq_append_getElem (by simpa [fB] using h1)]
    simp [fB]
   generalize getAttr name (jP ids[k] s.fFiles).fAttrs = v at hG hvk
   have hsum := b0v ((fB s ids name).take k) []
   rw [← hq] at hsum
   have hvl : ((fB s ids name).take k).length = k := by simp [fB]; omega
   rw [hvl] at hsum
   simp only [bI, List.length_nil, List.length_map, Nat.zero_add] at hsum
   have hil : its.length ≤ k := hsum.2
   have hF := a6h s ids[k] (by omega)
   have qH := @h1; repeat' (with_reducible first | refine nY ?_ | (refine mX ?_; try simp only [go_sem, qH]) | refine kD ?_ | (apply rE [5,9,10] [] [0,1,2,3,4] [0,1,2,3,4] ((.c 5 [6,7,8] [6,7,8] (.c 9 [] [6,7,8] (.c 10 [11] [8,11] .n .n) .n) (.c 9 [] [0,1,2,3,4] (.c 5 [6,7,8] [6,7,8] (.c 10 [11] [8,11] .n .n) .n) .n))) (by simp only [go_sem]; rfl) (by simp only [go_sem]; rfl) (by simp only [go_sem]; rfl) (by decide +kernel); (focus simp only [go_sem]; done)) | exact bJ | refine aP (uX ?_) ?_ | refine aQ (aX ?_) ?_ | refine aR (aX ?_) ?_ | exact bY | exact oH | exact uB | refine rD ?_ | refine cP hF ?_ | refine cP hG ?_ | refine aO ?_ | fail)
   have hC := fun p : cO => a3z p.1.fValue v
   refine aY (α := Nat) (fun n => [(12, oi n)]) (fun _ => []) (fun n => n ≤ its.length ∧ lM v its = n + lM v (its.drop n)) (fun n => its.length - n) 0 (fun _ => ?_) ?_ ?_ (fun n hn => ?_)
   ·simp only [go_sem]
   ·simp only [go_sem]; simp
   ·simp
   ·obtain ⟨hn, hf⟩ := hn
    simp only [go_sem]
    by_cases h5 : n < its.length
    ·have hfx := b4T v h5 hf
     have h5' : ((n : Int) < (its.length : Int)) = True := by simp [h5]
     have qH := aI @h5 (aI @h5' @decide_true); repeat' (with_reducible first | refine nY ?_ | (refine mX ?_; try simp only [go_sem, qH]) | refine kD ?_ | refine rT [13] [] ?_ | refine bX (aX ?_) (uX ?_) | refine dM (aX ?_) ?_ | (refine uA ?_; simp only [go_sem, qH]; (repeat' first | omega | refine And.intro ?_ ?_ | refine cP (hC its[n]) ?_ | (refine mX ?_; simp only [go_sem, qH] <;> fail)); done) | refine rD ?_ | refine cP (hC its[n]) ?_ | refine aO ?_ | fail)
     refine cnd rfl (fun h6 => ?_) (fun h6 => ?_)
     ·simp only [decide_eq_true_eq] at h6
      rw [if_pos h6] at hfx
      refine aD ?_
      refine aF (n + 1) ?_ ?_ ?_
      ·simp only [go_sem]; simp
      ·exact ⟨by omega, hfx⟩
      ·omega
     ·simp only [decide_eq_false_iff_not] at h6
      rw [if_neg h6] at hfx
      have qH := aI @h5 (aI @h5' @decide_true); repeat' (with_reducible first | refine nY ?_ | (refine mX ?_; try simp only [go_sem, qH]) | refine kD ?_ | refine rT [12] [] ?_ | refine bX (aX ?_) (uX ?_) | refine dM (aX ?_) ?_ | exact uB | refine rD ?_ | refine aO ?_ | fail)
      refine cnd (b := pQ v its[n]) rfl (fun h7 => ?_) (fun h7 => ?_)
      ·have qH := aI @h5 (aI @h5' (aI @h1 @decide_true)); repeat' (with_reducible first | refine nY ?_ | (refine mX ?_; try simp only [go_sem, qH]) | refine kD ?_ | (apply rF [11,12,15] [] [0,1,2,3,4,5,6,7,8,9,10] [0,1,2,3,4,5,6,7,8,9,10] ((.c 11 [] [0,1,2,3,4,5,6] (.c 12 [13,14] [0,1,13,14] (.c 15 [] [] .n .n) .n) .n)) (by simp only [go_sem]; rfl) (by simp only [go_sem]; rfl) (by simp only [go_sem]; rfl) (by decide +kernel); (focus simp only [go_sem]; done)) | exact bJ | refine aP (uX ?_) ?_ | refine aQ (aX ?_) ?_ | refine aR (aX ?_) ?_ | exact bY | exact oH | exact uB | refine rD ?_ | refine aO ?_ | fail)
       refine ⟨by simp, b2p fun z2 => ?_⟩
       have qH := aI @h5 (aI @h5' (aI @h1 @decide_true)); repeat' (with_reducible first | refine nY ?_ | (refine mX ?_; try simp only [go_sem, qH]) | refine kD ?_ | exact bJ | refine aP (uX ?_) ?_ | refine aQ (aX ?_) ?_ | refine aR (aX ?_) ?_ | exact uB | refine rD ?_ | refine aO ?_ | fail)
       refine b5K 2 n 5 (its[n].1.fIDs.map fun i => [.int .i64 i]) [[.int .i64 ids[k]]] rfl rfl ?_ (List.mem_singleton.2 rfl) (by simp) ?_ (fun z' => ?_)
       ·rw [List.getElem?_map, List.getElem?_eq_getElem h5]; rfl
       ·have hi2 := dD (fun g : TGroup => g.fIDs.length) (its.map (·.1)) (k := n) (by simpa using h5)
        simp only [List.getElem_map] at hi2
        simp only [go_sem, List.length_map, List.length_cons, List.length_nil]
        omega
       ·simp only [go_sem]
        have qH := aI @h5 (aI @h5' (aI @h1 @decide_true)); repeat' (with_reducible first | refine nY ?_ | (refine mX ?_; try simp only [go_sem, qH]) | refine kD ?_ | exact bJ | refine aP (uX ?_) ?_ | refine aQ (aX ?_) ?_ | refine aR (aX ?_) ?_ | exact uB | refine rD ?_ | refine aO ?_ | fail)
        refine aF (k + 1, its.set n (⟨its[n].1.fValue, its[n].1.fIDs ++ [ids[k]]⟩, z')) ?_ ?_ ?_
        ·simp only [go_sem]; simp [List.map_set, pO, wI]
        ·refine ⟨h1, ?_⟩
         simp only
         rw [hvk, List.foldl_append, ← hq]
         simp only [List.foldl_cons, List.foldl_nil]
         subst hfx
         exact (a7Q v ids[k] z' h5 h7).symm
        ·simp only; omega
      ·have hins : ∀ z2, (a1N n v ids[k] z2 its).map (·.1) = ((fB s ids name).take (k + 1)).foldl iL [] := fun z2 => by
        rw [hvk, List.foldl_append, ← hq]
        simp only [List.foldl_cons, List.foldl_nil]
        subst hfx
        exact (a3w v ids[k] z2 fun hl => h7).symm
       refine WP.sees (Sees.frz 1 rfl) ?_
       simp only [go_sem]
       have qH := aI @h5 (aI @h5' (aI @h1 (aI @kK (aI @kL (aI @nG (aI @nH @xD)))))); repeat' (with_reducible first | refine nY ?_ | (refine mX ?_; try simp only [go_sem, qH]) | refine kD ?_ | (apply rF [0,4,10,12,13] [] [1,2,3,5,6,7,8,9] [1,2,3,5,6,7,8,9] ((.c 0 [] [1,2,3,5,6,7,8,9] (.c 4 [] [5,6,7,8,9] (.c 10 [11] [5,11] (.c 12 [] [] (.c 13 [14] [14] .n .n) .n) .n) (.c 10 [11] [1,2,3,5,11] (.c 4 [] [5,11] (.c 12 [] [] (.c 13 [14] [14] .n .n) .n) (.c 12 [] [1,2,3] (.c 4 [] [] (.c 13 [14] [14] .n .n) .n) .n)) .n)) (.c 10 [11] [1,2,3,5,11] (.c 0 [] [1,2,3,5,11] (.c 4 [] [5,11] (.c 12 [] [] (.c 13 [14] [14] .n .n) .n) (.c 12 [] [1,2,3] (.c 4 [] [] (.c 13 [14] [14] .n .n) .n) .n)) (.c 12 [] [1,2,3] (.c 0 [] [1,2,3] (.c 4 [] [] (.c 13 [14] [14] .n .n) .n) .n) .n)) .n))) (by simp only [go_sem]; rfl) (by simp only [go_sem]; rfl) (by simp only [go_sem]; rfl) (by decide +kernel); (focus simp only [go_sem]; done)) | exact bJ | refine aP (uX ?_) ?_ | refine aQ (aX ?_) ?_ | refine aR (aX ?_) ?_ | exact bY | exact oH | exact uB | refine rD ?_ | refine aO ?_ | fail)
       all_goals
        refine ⟨by simp, b2p fun z2 => ?_⟩
        have qH := aI @h5 (aI @h5' (aI @h1 (aI @kK (aI @kL (aI @nG (aI @nH @xD)))))); repeat' (with_reducible first | refine nX ?_ | (refine mX ?_; try simp only [go_sem, qH]) | refine kD ?_ | exact bJ | refine aP (uX ?_) ?_ | refine aQ (aX ?_) ?_ | refine aR (aX ?_) ?_ | exact uB | refine aO ?_ | fail)
       all_goals
        first | refine WP.sees (Sees.poolM 2 5 rfl rfl (by decide)) ?_ | refine WP.sees (Sees.poolM 2 6 rfl rfl (by decide)) ?_ | refine WP.sees (Sees.poolM 2 7 rfl rfl (by decide)) ?_
        refine WP.sees (Sees.poolP 2 rfl (a4Y n v ids[k] z2 its)) ?_
        simp only [go_sem]
        have q0 := @h5; have q1 := @h5'; have q2 := @h1; have q3 := @kK; have q4 := @kL; have q5 := @nG; have q6 := @nH; have q7 := @xD; refine a0F ?_
       all_goals
        first
        | (refine nL [(1, 5)] (k + 1, a1N n v ids[k] z2 its) (by simp only [go_sem]; rfl) ?_ ⟨h1, hins z2⟩ (by simp only; omega)
           simp only [go_sem]
           simp [oD]
           done)
        | (refine nL [(1, 6)] (k + 1, a1N n v ids[k] z2 its) (by simp only [go_sem]; rfl) ?_ ⟨h1, hins z2⟩ (by simp only; omega)
           simp only [go_sem]
           simp [oD]
           done)
        | (refine nL [(1, 7)] (k + 1, a1N n v ids[k] z2 its) (by simp only [go_sem]; rfl) ?_ ⟨h1, hins z2⟩ (by simp only; omega)
           simp only [go_sem]
           simp [oD]
           done)
    ·have e : n = its.length := by omega
     have hfx : lM v its = n := by rw [hf, e, List.drop_length]; rfl
     have h5' : ((n : Int) < (its.length : Int)) = False := by simp [h5]
     have hins : ∀ z2, (a1N n v ids[k] z2 its).map (·.1) = ((fB s ids name).take (k + 1)).foldl iL [] := fun z2 => by
      rw [hvk, List.foldl_append, ← hq]
      simp only [List.foldl_cons, List.foldl_nil]
      subst hfx
      exact (a3w v ids[k] z2 fun hl => by omega).symm
     refine WP.sees (Sees.frz 1 rfl) ?_
     simp only [go_sem]
     have qH := aI @h5 (aI @h5' (aI @h1 (aI @decide_false (aI @kK (aI @kL (aI @nG (aI @nH @xD))))))); repeat' (with_reducible first | refine nY ?_ | (refine mX ?_; try simp only [go_sem, qH]) | refine kD ?_ | (apply rF [0,4,10,12,13] [] [1,2,3,5,6,7,8,9] [1,2,3,5,6,7,8,9] ((.c 0 [] [1,2,3,5,6,7,8,9] (.c 4 [] [5,6,7,8,9] (.c 10 [11] [5,11] (.c 12 [] [] (.c 13 [14] [14] .n .n) .n) .n) (.c 10 [11] [1,2,3,5,11] (.c 4 [] [5,11] (.c 12 [] [] (.c 13 [14] [14] .n .n) .n) (.c 12 [] [1,2,3] (.c 4 [] [] (.c 13 [14] [14] .n .n) .n) .n)) .n)) (.c 10 [11] [1,2,3,5,11] (.c 0 [] [1,2,3,5,11] (.c 4 [] [5,11] (.c 12 [] [] (.c 13 [14] [14] .n .n) .n) (.c 12 [] [1,2,3] (.c 4 [] [] (.c 13 [14] [14] .n .n) .n) .n)) (.c 12 [] [1,2,3] (.c 0 [] [1,2,3] (.c 4 [] [] (.c 13 [14] [14] .n .n) .n) .n) .n)) .n))) (by simp only [go_sem]; rfl) (by simp only [go_sem]; rfl) (by simp only [go_sem]; rfl) (by decide +kernel); (focus simp only [go_sem]; done)) | exact bJ | refine aP (uX ?_) ?_ | refine aQ (aX ?_) ?_ | refine aR (aX ?_) ?_ | exact bY | exact oH | exact uB | refine rD ?_ | (refine rT [13] [] ?_) | (refine bX (aX ?_) (uX ?_)) | (refine dM (aX ?_) ?_) | refine aO ?_ | fail)
     all_goals
      refine ⟨by simp, b2p fun z2 => ?_⟩
      have qH := aI @h5 (aI @h5' (aI @h1 (aI @kK (aI @kL (aI @nG (aI @nH @xD)))))); repeat' (with_reducible first | refine nX ?_ | (refine mX ?_; try simp only [go_sem, qH]) | refine kD ?_ | exact bJ | refine aP (uX ?_) ?_ | refine aQ (aX ?_) ?_ | refine aR (aX ?_) ?_ | exact uB | refine aO ?_ | fail)
     all_goals
      first | refine WP.sees (Sees.poolM 2 5 rfl rfl (by decide)) ?_ | refine WP.sees (Sees.poolM 2 6 rfl rfl (by decide)) ?_ | refine WP.sees (Sees.poolM 2 7 rfl rfl (by decide)) ?_
      refine WP.sees (Sees.poolP 2 rfl (a4Y n v ids[k] z2 its)) ?_
      simp only [go_sem]
      have q0 := @h5; have q1 := @h5'; have q2 := @h1; have q3 := @kK; have q4 := @kL; have q5 := @nG; have q6 := @nH; have q7 := @xD; refine a0F ?_
     all_goals
      first
      | (refine nL [(1, 5)] (k + 1, a1N n v ids[k] z2 its) (by simp only [go_sem]; rfl) ?_ ⟨h1, hins z2⟩ (by simp only; omega)
         simp only [go_sem]
         simp [oD]
         done)
      | (refine nL [(1, 6)] (k + 1, a1N n v ids[k] z2 its) (by simp only [go_sem]; rfl) ?_ ⟨h1, hins z2⟩ (by simp only; omega)
         simp only [go_sem]
         simp [oD]
         done)
      | (refine nL [(1, 7)] (k + 1, a1N n v ids[k] z2 its) (by simp only [go_sem]; rfl) ?_ ⟨h1, hins z2⟩ (by simp only; omega)
         simp only [go_sem]
         simp [oD]
         done)
  ·simp only [decide_eq_false_iff_not] at h1
   have e : k = ids.length := by omega
   subst e
   have hvl : (fB s ids name).length = ids.length := by simp [fB]
   rw [← hvl, List.take_length] at hq
   rw [← hq]
   refine aD ?_
   refine jH (Sees.unpool 1 2 (its.map itO) (by rw [List.map_map]; rfl) rfl (by rw [List.map_map]; exact List.Perm.refl _)) ?_
   simp only [go_sem]
   have hclr : (its.map itO).map qX = (its.map (·.1)).map fZ := by
    rw [List.map_map, List.map_map]
    exact List.map_congr_left fun p _ => b0w p
   exact aA ⟨⟨_, rfl, by simp only [go_sem, hclr]⟩, trivial⟩
end Opq
end Go.Proofs.YtakopfjdmmnjcaaGreat
end
section
set_option maxRecDepth 100000
set_option maxHeartbeats 4000000
namespace Go.Proofs.YtakopfjdmmnjcaaGreat
open Go Go.Sx Go.RowKit Go.Proofs
theorem a6l (s : TStore) (id : Int) (h : aJ s ≤ 4300000) : FnC Tryz.prog 72 [bG s, oi id] (.t [(true, (iM (jP id s.fFiles)).cells), (false, [.d (bv (decide (0 ≤ ixF id s.fFiles)))])]) := (a7m s id h).pu (by simp only [go_sem, and_self])
def nwG (v : TValue) : cO := (⟨v, []⟩, .slice none 0 0)
namespace Opq
theorem b3D (v : TValue) (p : cO) : FnC Tryz.prog 75 [gO p, .o (.q [iv v.fKind, iv v.fInt, sv v.fStr])] (ob (pQ v p)) := by
 refine ent Tryz.func75 rfl Tryz.call75 rfl (fun C => ?_); simp only [go_sem, st0, Tryz.ntmps75]
 refine aD ?_
 exact aA ⟨⟨_, rfl, by simp only [go_sem, pQ, xN]⟩, trivial⟩
theorem a3S (f : Nat) (c : List D) (p : cO → Bool) (l : List cO) (hf : ∀ s ∈ l, FnC Tryz.prog f [gO s, .o (.q c)] (ob (p s))) (hl : l.length ≤ 8388608) : FnC Tryz.prog 74 [.o (.d (.sl (l.map pO))), .o (.f f [c])] (oi (idxP p l 0)) := by
 refine ent Tryz.func74 rfl Tryz.call74 rfl (fun C => ?_); simp only [go_sem, st0, Tryz.ntmps74]
 refine aD ?_
 refine aY (α := Nat) (fun k => [(8, oi k)]) (fun _ => []) (fun k => k ≤ l.length ∧ idxP p l 0 = idxP p (l.drop k) k) (fun k => l.length - k) 0 (fun _ => ?_) ?_ ?_ (fun k hk => ?_)
 ·simp only [go_sem]
 ·simp only [go_sem]; simp
 ·simp
 ·obtain ⟨hk, hq⟩ := hk
  simp only [go_sem]
  refine aD ?_
  refine cnd rfl (fun h => ?_) (fun h => ?_)
  ·simp only [decide_eq_true_eq, Int.ofNat_lt] at h
   have hd := List.drop_eq_getElem_cons h
   rw [hd, idxP] at hq
   have q0 := @h; refine lK (hf l[k] (List.getElem_mem h)) ?_
   refine cnd rfl (fun h2 => ?_) (fun h2 => ?_)
   ·refine aD ?_
    exact aA ⟨⟨_, rfl, by simp only [go_sem, hq, h2]⟩, trivial⟩
   ·refine aD ?_
    refine aF (k + 1) ?_ ?_ ?_
    ·simp only [go_sem]; simp
    ·rw [hq, h2]; exact ⟨h, by simp⟩
    ·omega
  ·simp only [decide_eq_false_iff_not] at h
   have e : k = l.length := by omega
   subst e
   simp only [List.drop_length, idxP] at hq
   refine aD ?_
   exact aA ⟨⟨_, rfl, by simp only [go_sem, hq]⟩, trivial⟩
def SortsG (n : Nat) : Prop := ∀ its : List cO, jS (its.map (·.1)) → its.length ≤ n → ∃ its' : List cO, its'.Perm its ∧ (its'.map (·.1)).Pairwise ltG ∧
    FnI Tryz.prog 76 75 4 (its.map pO) [.o (.f 77 [])] true (its'.map pO)
theorem implGroup_ok (n : Nat) (hSort : SortsG n) (s : TStore) (ids : List Int) (name : ByteArray) (h : aJ s ≤ 1048576) (hi : ids.length ≤ 1048576) (hn : ids.length ≤ n) :
    FnC Tryz.prog 36 [bG s, .o (.d (.sl (ids.map gG))), os name] (.o (.w 75 4 (((fB s ids name).foldl iL []).map fZ))) := by
 refine ent Tryz.func36 rfl Tryz.call36 rfl (fun C => ?_); simp only [go_sem, st0, Tryz.ntmps36]
 refine aD ?_
 refine WP.sees (Sees.pool0 3 1) ?_
 simp only [go_sem]
 refine aY (α := Nat × List cO) (fun x => [(7, .o (.s 1)), (17, oi x.1), (14, .o .u)]) (fun x => [(1, .row 75 4 (x.2.map pO) true), (2, .pool 3 1 (x.2.map wI))]) (fun x => x.1 ≤ ids.length ∧ x.2.map (·.1) = ((fB s ids name).take x.1).foldl mG []) (fun x => ids.length - x.1) (0, []) (fun _ => ?_) ?_ ?_ (fun x hx => ?_)
 ·simp only [go_sem]
 ·simp only [go_sem]; simp
 ·simp
 ·obtain ⟨k, its⟩ := x
  obtain ⟨hk, hq⟩ := hx
  simp only at hk hq
  simp only [go_sem]
  refine aD ?_
  refine cnd rfl (fun h1 => ?_) (fun h1 => ?_)
  ·simp only [decide_eq_true_eq, Int.ofNat_lt] at h1
   have hfw : bA (jP ids[k] s.fFiles) ≤ 4300000 := by have := a5P ids[k] s.fFiles; unfold aJ at h; omega
   have hG := jC (jP ids[k] s.fFiles) name hfw
   have hvk : (fB s ids name).take (k + 1) = (fB s ids name).take k ++ [(getAttr name (jP ids[k] s.fFiles).fAttrs, ids[k])] := by
    rw [List.take_succ_eq_append_getElem (by simpa [fB] using h1)]
    simp [fB]
   generalize getAttr name (jP ids[k] s.fFiles).fAttrs = v at hG hvk
   have hsum := a7V ((fB s ids name).take k) []
   rw [← hq] at hsum
   have hvl : ((fB s ids name).take k).length = k := by simp [fB]; omega
   rw [hvl] at hsum
   simp only [bI, List.length_nil, List.length_map, Nat.zero_add] at hsum
   have hil : its.length ≤ k := hsum.2
   have hI := a3S _ _ (pQ v) its (fun p _ => b3D v p) (by omega)
   have hsp := idxP_spec (pQ v) its 0
   generalize idxP (pQ v) its 0 = q at hI hsp
   have qH := @h1; repeat' (with_reducible first | refine nY ?_ | (refine mX ?_; try simp only [go_sem, qH]) | refine kD ?_ | refine rD ?_ | refine cP (a6l s ids[k] (by omega)) ?_ | refine cP hG ?_ | refine vL hI ?_ | refine aO ?_ | fail)
   refine cnd rfl (fun h2 => ?_) (fun h2 => ?_)
   ·simp only [decide_eq_true_eq] at h2
    rcases hsp with ⟨rfl, hall⟩ | ⟨k0, rfl, _⟩
    case inr => omega
    refine WP.sees (Sees.poolN 2 rfl) ?_
    simp only [go_sem]
    have hrow : its.map pO ++ [[iv v.fKind, iv v.fInt, sv v.fStr, .v (.slice none 0 0)]] = (its ++ [nwG v]).map pO := by simp [pO, nwG]
    have hlen : its.length < (its ++ [nwG v]).length := by simp
    have q0 := @hrow; have q1 := @hlen; refine fM ?_
    refine ⟨by simp, b2p fun z2 => ?_⟩
    have q0 := @hrow; have q1 := @hlen; refine fM ?_
    refine b5K 2 its.length 6 [] [[.int .i64 ids[k]]] rfl rfl ?_ (List.mem_singleton.2 rfl) (by simp) ?_ (fun z' => ?_)
    ·simp [nwG]
    ·simp only [go_sem]
    ·simp only [go_sem]
     have q0 := @hrow; have q1 := @hlen; refine fM ?_
     refine aF (k + 1, (its ++ [nwG v]).set its.length (⟨v, [ids[k]]⟩, z')) ?_ ?_ ?_
     ·simp only [go_sem]; simp [List.map_set, pO, wI, nwG]
     ·refine ⟨h1, ?_⟩
      simp only
      rw [hvk, List.foldl_append, ← hq]
      simp only [List.foldl_cons, List.foldl_nil]
      rw [a7T v ids[k] hall]
      simp
     ·simp only; omega
   ·simp only [decide_eq_false_iff_not] at h2
    rcases hsp with ⟨rfl, hall⟩ | ⟨k0, rfl, hk0, ht, hlt⟩
    case inl => omega
    simp only [Nat.zero_add]
    have q0 := @hk0; refine jW ?_
    refine ⟨by simp, b2p fun z2 => ?_⟩
    have q0 := @hk0; refine jW ?_
    refine b5K 2 k0 5 (its[k0].1.fIDs.map fun i => [.int .i64 i]) [[.int .i64 ids[k]]] rfl rfl ?_ (List.mem_singleton.2 rfl) (by simp) ?_ (fun z' => ?_)
    ·rw [List.getElem?_map, List.getElem?_eq_getElem hk0]; rfl
    ·have hi2 := dD (fun g : TGroup => g.fIDs.length) (its.map (·.1)) (k := k0) (by simpa using hk0)
     simp only [List.getElem_map] at hi2
     simp only [go_sem, List.length_map, List.length_cons, List.length_nil]
     omega
    ·simp only [go_sem]
     have q0 := @hk0; refine jW ?_
     refine aF (k + 1, its.set k0 (⟨its[k0].1.fValue, its[k0].1.fIDs ++ [ids[k]]⟩, z')) ?_ ?_ ?_
     ·simp only [go_sem]; simp [List.map_set, pO, wI]
     ·refine ⟨h1, ?_⟩
      simp only
      rw [hvk, List.foldl_append, ← hq]
      simp only [List.foldl_cons, List.foldl_nil]
      exact (a7S v ids[k] z' hk0 ht hlt).symm
     ·simp only; omega
  ·simp only [decide_eq_false_iff_not] at h1
   have e : k = ids.length := by omega
   subst e
   have hvl : (fB s ids name).length = ids.length := by simp [fB]
   rw [← hvl, List.take_length] at hq
   have hsum := a7V (fB s ids name) []
   rw [← hq] at hsum
   simp only [bI, List.length_nil, List.length_map, Nat.zero_add] at hsum
   obtain ⟨hap, hsrt, hmem⟩ := a4Z (fB s ids name) [] [] List.Pairwise.nil List.Pairwise.nil fun g => Iff.rfl
   obtain ⟨its', hp, hs, hS⟩ := hSort its (by rw [hq]; exact hap) (by omega)
   have hfin : its'.map (·.1) = (fB s ids name).foldl iL [] := a3Q _ (fun g => by rw [← hq]; exact (hp.map (·.1)).mem_iff) hs
   rw [← hfin]
   have qH := trivial; repeat' (with_reducible first | refine nY ?_ | (refine mX ?_; try simp only [go_sem]) | refine kD ?_ | refine rD ?_ | refine vI hS ?_ | refine vJ hS ?_ | refine aO ?_ | fail)
   refine jH (Sees.unpool 1 2 (its'.map itO) (by rw [List.map_map]; rfl) rfl (by rw [List.map_map]; exact (hp.map wI).symm)) ?_
   simp only [go_sem]
   have hclr : (its'.map itO).map qX = (its'.map (·.1)).map fZ := by
    rw [List.map_map, List.map_map]
    exact List.map_congr_left fun p _ => b0w p
   exact aA ⟨⟨_, rfl, by simp only [go_sem, hclr]⟩, trivial⟩
end Opq
end Go.Proofs.YtakopfjdmmnjcaaGreat
end
section
set_option maxRecDepth 100000
set_option maxHeartbeats 4000000
namespace Go.Proofs.YtakopfjdmmnjcaaGreat
open Go Go.Sx Go.RowKit Go.Proofs Go.Sort
theorem b3C (d : Array cO) (a : Nat) : Sort.insertionSort ltO d a a = d := by
 unfold Sort.insertionSort
 exact insOuter_stop _ _ _ _ _ (by omega)
theorem a3A : FnC Tryz.prog 116 [.o (.d (.sl [])), oi 0, .o (.f 77 [])] (.t []) := by
 have hI : FnC Tryz.prog 146 [.o (.d (.sl [])), oi 0, oi 0, .o (.f 77 [])] (.t []) := a1C
 refine ent Tryz.func116 rfl Tryz.call116 rfl (fun C => ?_); simp only [go_sem, st0, Tryz.ntmps116]
 refine aD ?_
 refine aY (α := Unit) (fun _ => [(7, oi 0), (8, oi 20)]) (fun _ => []) (fun _ => True) (fun _ => 0) () (fun _ => ?_) ?_ trivial (fun _ _ => ?_)
 ·simp only [go_sem]
 ·simp only [go_sem]; simp
 ·simp only [go_sem]
  refine iZ hI ?_
  refine aY (α := Unit) (fun _ => [(6, oi 20)]) (fun _ => []) (fun _ => True) (fun _ => 0) () (fun _ => ?_) ?_ trivial (fun _ _ => ?_)
  ·simp only [go_sem]
  ·simp only [go_sem]; simp
  ·simp only [go_sem]
   refine aD ?_
   exact uZ ⟨⟨_, rfl, by simp only [go_sem]⟩, by simp [cK]⟩
theorem a6i (d : Array cO) (hs : d.size ≤ 20) :
    FnI Tryz.prog 116 75 4 (gX d) [oi d.size, .o (.f 77 [])] true (gX (Sort.insertionSort ltO d 0 d.size)) := by
 have hz : (Sort.insertionSort ltO d 0 d.size).size = d.size := a3x 0 d.size _ _ d rfl
 refine b6D Tryz.func116 rfl Tryz.call116 rfl (mF d) (mF _) (by rw [kR, kR]; exact hz) (fun h0 => ?_) (fun hne C y => ?_)
 ·rw [a1a h0]; exact a3A
 ·simp only [go_sem, Tryz.ntmps116]
  by_cases h20 : d.size = 20
  ·have hI0 : FnI Tryz.prog 146 75 4 (gX d) [oi 0, oi 20, .o (.f 77 [])] true (gX (Sort.insertionSort ltO d 0 d.size)) := by
    rw [h20]; exact yR d 0 20 (by omega) (by omega) (by omega)
   have hI : FnI Tryz.prog 146 75 4 (gX (Sort.insertionSort ltO d 0 d.size)) [oi 20, oi 20, .o (.f 77 [])] true (gX (Sort.insertionSort ltO d 0 d.size)) := by
    have := yR (Sort.insertionSort ltO d 0 d.size) 20 20 (by omega) (by omega) (by omega)
    rw [b3C] at this
    exact this
   have hz20 : (d.size : Int) = 20 := by omega
   generalize Sort.insertionSort ltO d 0 d.size = d1 at hI hI0
   rw [hz20]
   refine aD ?_
   refine aY (α := Bool) (fun x => [(7, oi (bif x then 20 else 0)), (8, oi (bif x then 40 else 20))]) (fun x => [(0, .row 75 4 (gX (bif x then d1 else d)) true)]) (fun _ => True) (fun x => bif x then 0 else 1) false (fun _ => ?_) ?_ trivial (fun x _ => ?_)
   ·simp only [go_sem]
   ·simp only [go_sem]; simp
   ·simp only [go_sem]
    cases x with
    | false =>
     simp only [cond_false]
     have qH := trivial; repeat' (with_reducible first | refine nY ?_ | (refine mX ?_; try simp only [go_sem]) | refine kD ?_ | refine rD ?_ | refine vI hI0 ?_ | refine vJ hI0 ?_ | refine aO ?_ | fail)
     refine aF true ?_ trivial (by simp)
     simp only [go_sem]; simp
    | true =>
     simp only [cond_true]
     have qH := trivial; repeat' (with_reducible first | refine nY ?_ | (refine mX ?_; try simp only [go_sem]) | refine kD ?_ | refine rD ?_ | refine vI hI ?_ | refine vJ hI ?_ | refine aO ?_ | fail)
     refine aY (α := Unit) (fun _ => [(6, oi 20)]) (fun _ => []) (fun _ => True) (fun _ => 0) () (fun _ => ?_) ?_ trivial (fun _ _ => ?_)
     ·simp only [go_sem]
     ·simp only [go_sem]; simp
     ·simp only [go_sem]
      refine aD ?_
      exact qG rfl rfl
  ·have hl : ¬ ((20 : Int) ≤ (d.size : Int)) := by omega
   have hl2 : ¬ ((20 : Int) < (d.size : Int)) := by omega
   have hI : FnI Tryz.prog 146 75 4 (gX d) [oi 0, oi d.size, .o (.f 77 [])] true (gX (Sort.insertionSort ltO d 0 d.size)) := yR d 0 d.size (by omega) (by omega) (by omega)
   generalize Sort.insertionSort ltO d 0 d.size = d1 at hI
   refine aD ?_
   refine aY (α := Unit) (fun _ => [(7, oi 0), (8, oi 20)]) (fun _ => []) (fun _ => True) (fun _ => 0) () (fun _ => ?_) ?_ trivial (fun _ _ => ?_)
   ·simp only [go_sem]
   ·simp only [go_sem]; simp
   ·simp only [go_sem]
    have qH := aI @hl @decide_false; repeat' (with_reducible first | refine nY ?_ | (refine mX ?_; try simp only [go_sem, qH]) | refine kD ?_ | refine rD ?_ | refine vI hI ?_ | refine vJ hI ?_ | refine aO ?_ | fail)
    refine aY (α := Unit) (fun _ => [(6, oi 20)]) (fun _ => []) (fun _ => True) (fun _ => 0) () (fun _ => ?_) ?_ trivial (fun _ _ => ?_)
    ·simp only [go_sem]
    ·simp only [go_sem]; simp
    ·simp only [go_sem]
     have q0 := @hl2; have q1 := @decide_false; refine fM ?_
     exact qG rfl rfl
theorem b4X : SWO ltO := by
 refine ⟨fun x => ?_, fun x y z h1 h2 => ?_, fun x y z h1 h2 => ?_⟩
 ·unfold ltO
  rw [decide_eq_false_iff_not, qQ]; exact pR _
 ·unfold ltO at h1 h2 ⊢
  rw [decide_eq_true_eq, qQ] at h1 h2 ⊢
  exact sP _ _ _ h1 h2
 ·unfold ltO at h1 h2 ⊢
  rw [decide_eq_false_iff_not, qQ] at h1 h2 ⊢
  intro h3
  by_cases e : x.1.fValue = y.1.fValue
  ·rw [e] at h3; exact h2 h3
  ·exact h2 (sP _ _ _ (a2j h1 e) h3)
theorem a6j {d : Array cO} (h : SortedIn ltO 0 d.size d) (ha : jS (d.toList.map (·.1))) : (d.toList.map (·.1)).Pairwise ltG := by
 rw [List.pairwise_iff_getElem] at *
 unfold jS at ha
 rw [List.pairwise_iff_getElem] at ha
 intro i j hi hj hij
 have hi' : i < d.toList.length := by simpa using hi
 have hj' : j < d.toList.length := by simpa using hj
 have h1 := h i j (by omega) hij (by simpa using hj')
 have h2 := ha i j hi hj hij
 rw [← mZ d i hi', ← mZ d j hj'] at h1
 simp only [List.getElem_map] at h2 ⊢
 unfold ltO at h1
 rw [decide_eq_false_iff_not, qQ] at h1
 exact a2j h1 (fun e => h2 e.symm)
theorem a9q {l m : List TGroup} (h : l.Perm m) (ha : jS l) : jS m := by
 unfold jS at *
 exact (h.pairwise_iff (fun {a b} hab => fun e => hab e.symm)).1 ha
theorem a6k {d d' : Array cO} (h : PermIn 0 d.size d d') : d'.toList.Perm d.toList := by
 have := h.2.2
 have h1 := h.1
 rw [show d'.extract 0 d.size = d' by rw [← h1]; simp, show d.extract 0 d.size = d by simp] at this
 exact this
theorem a3R (d d1 : Array cO) (hz : d1.size = d.size) (hS : FnI Tryz.prog 116 75 4 (gX d) [oi d.size, .o (.f 77 [])] true (gX d1))
    (hN : d.size = 0 → FnC Tryz.prog 116 [.o (.d (.sl [])), oi 0, .o (.f 77 [])] (.t [])) :
    FnI Tryz.prog 76 75 4 (gX d) [.o (.f 77 [])] true (gX d1) := by
 have hlen := kR d
 refine b6D Tryz.func76 rfl Tryz.call76 rfl (mF d) (mF _) (by rw [kR, kR]; exact hz) (fun h0 => ?_) (fun hne C y => ?_)
 ·have hN : FnC Tryz.prog 116 [.o (.d (.sl [])), oi ((0 : Nat) : Int), .o (.f 77 [])] (.t []) := hN (a1a h0)
  refine ent Tryz.func76 rfl Tryz.call76 rfl (fun C => ?_); simp only [go_sem, st0, Tryz.ntmps76]
  refine iZ hN ?_
  exact uZ ⟨⟨_, rfl, by simp only [go_sem]⟩, by simp [cK]⟩
 ·simp only [go_sem, Tryz.ntmps76]
  have qH := @hlen; repeat' (with_reducible first | refine nY ?_ | (refine mX ?_; try simp only [go_sem, qH]) | refine kD ?_ | refine rD ?_ | refine vI hS ?_ | refine vJ hS ?_ | refine aO ?_ | fail)
  exact qG rfl rfl
theorem a8a (its : List cO) (hap : jS (its.map (·.1))) (hl : its.length ≤ 20) : ∃ its' : List cO, its'.Perm its ∧ (its'.map (·.1)).Pairwise ltG ∧
    FnI Tryz.prog 76 75 4 (its.map pO) [.o (.f 77 [])] true (its'.map pO) := by
 obtain ⟨h1, h2⟩ := insertionSort_holds b4X its.toArray 0 its.toArray.size (Nat.zero_le _) (Nat.le_refl _)
 have hp := a6k h1
 refine ⟨(Sort.insertionSort ltO its.toArray 0 its.toArray.size).toList, hp, ?_, ?_⟩
 ·refine a6j (by rw [h1.1]; exact h2) (a9q (hp.map (·.1)).symm (by simpa using hap))
 ·exact a3R its.toArray _ h1.1 (a6i its.toArray (by simpa using hl)) (fun _ => a3A)
theorem a8b : Opq.SortsG 20 := fun its hap hl => a8a its hap hl
end Go.Proofs.YtakopfjdmmnjcaaGreat
end
section
set_option maxRecDepth 100000
set_option maxHeartbeats 4000000
namespace Go.Proofs.YtakopfjdmmnjcaaGreat
open Go Go.Sx Go.RowKit Go.Proofs
theorem b3E {x : TValue × Int} {l : List TGroup} {B : Nat} (hx : iG x.1 ≤ B) (hl : ∀ g ∈ l, iG g.fValue ≤ B) : ∀ g ∈ iL l x, iG g.fValue ≤ B := fun g hg => by
 rcases insG_mem hg with e | ⟨g', h1, h2⟩
 ·rw [e]; exact hx
 ·rw [← h2]; exact hl g' h1
theorem b3F {B : Nat} (xs : List (TValue × Int)) : ∀ l : List TGroup, (∀ x ∈ xs, iG x.1 ≤ B) → (∀ g ∈ l, iG g.fValue ≤ B) → ∀ g ∈ xs.foldl iL l, iG g.fValue ≤ B := by
 induction xs with
 | nil => intro l _ h; exact h
 | cons x xs ih => intro l hx hl; exact ih (iL l x) (fun y hy => hx y (List.mem_cons_of_mem _ hy)) (b3E (hx x List.mem_cons_self) hl)
theorem a5a (n : ByteArray) : ∀ l : List TAttr, iG (getAttr n l) ≤ bI iU l + 1
 | [] => by
  show (⟨#[]⟩ : ByteArray).size ≤ bI iU [] + 1
  have : (⟨#[]⟩ : ByteArray).size = 0 := rfl
  omega
 | a :: l => by
  have := a5a n l
  unfold getAttr
  split
  ·simp only [bI, iU]; omega
  ·simp only [bI]; omega
theorem b0x (B : Nat) : ∀ l : List TGroup, (∀ g ∈ l, iG g.fValue ≤ B) → bI a0L l ≤ l.length * B + bI (fun g => g.fIDs.length) l
 | [], _ => by simp [bI]
 | g :: l, h => by
  have h1 := h g List.mem_cons_self
  have h2 := b0x B l fun x hx => h x (List.mem_cons_of_mem _ hx)
  simp only [bI, a0L, List.length_cons, Nat.add_mul, Nat.one_mul]
  omega
theorem b6F (B : Nat) (s : TStore) (ids : List Int) (name : ByteArray) (hs : aJ s ≤ B) : mK ((fB s ids name).foldl iL []) ≤ ids.length * (B + 3) ∧ ((fB s ids name).foldl iL []).length ≤ ids.length := by
 have h1 := b3F (B := B + 1) (fB s ids name) [] (fun x hx => by
  obtain ⟨id, _, rfl⟩ := List.mem_map.1 hx
  have := a5a name (jP id s.fFiles).fAttrs
  have h2 := a5P id s.fFiles
  have h3 : bI iU (jP id s.fFiles).fAttrs ≤ bA (jP id s.fFiles) := by unfold bA eT; omega
  have h4 : eF s.fFiles ≤ aJ s := by unfold aJ; omega
  simp only
  omega) (by simp)
 have h2 := b0x (B + 1) _ h1
 have h3 := b0v (fB s ids name) []
 have h4 : (fB s ids name).length = ids.length := by simp [fB]
 simp only [bI, List.length_nil, Nat.zero_add] at h3
 have h5 : ((fB s ids name).foldl iL []).length * (B + 1) ≤ ids.length * (B + 1) := Nat.mul_le_mul_right _ (by omega)
 have h6 : ids.length * (B + 3) = ids.length * (B + 1) + ids.length + ids.length := by rw [Nat.mul_add, Nat.mul_add]; omega
 unfold mK
 exact ⟨by omega, by omega⟩
theorem b4H (s : TStore) (d : List TDir) : ∀ x ∈ (evX s d [] (dirNs d)).1, x.fIDs.length ≤ 12 := by
 unfold evX
 split
 ·rename_i hb
  rw [Bool.and_eq_true] at hb
  obtain ⟨hv, hleast⟩ := a0n hb.1
  have h12 := qM hb.2
  have hev := a0s (fs := s.fFiles) (ns := dirNs d) (r := []) (fun i (hi : i < d.length) => mD hv i hi) hleast.clo (wG d (resL d))
  have h0 : bM [] = 0 := by simp [bM, bI]
  revert hev
  generalize (allE s.fFiles d (resL d) (dirNs d) (s.fFiles.length + bM []) [] (wG d (resL d))).1 = X
  rw [h0]
  intro hev x hx
  obtain ⟨i, hi, rfl⟩ := List.mem_iff_getElem.1 hx
  have hlen := hev.len
  obtain ⟨e1, e2⟩ := hev.get i (by omega)
  have h2 := hev.bd i
  rw [e2]
  omega
 ·intro x hx; simp at hx
theorem a4Q (n : ByteArray) : ∀ r : List TResult, (∀ x ∈ r, x.fIDs.length ≤ 12) → (bQ n r).length ≤ 12
 | [], _ => by simp [bQ]
 | x :: r, h => by
  unfold bQ
  split
  ·exact h x List.mem_cons_self
  ·exact a4Q n r fun y hy => h y (List.mem_cons_of_mem _ hy)
theorem a5X (s : TStore) (d : List TDir) (u : Int) (n : ByteArray) : (a1L s d u n).length ≤ 12 := by
 refine a4Q n _ ?_
 unfold evU
 split
 ·exact b4H _ _
 ·intro x hx; simp at hx
noncomputable def grpL (s : TStore) (d : List TDir) (u : Int) (dir name : ByteArray) : List TGroup := (fB (vis s u) (a1L s d u dir) name).foldl iL []
theorem a0m (s : TStore) (d : List TDir) (u : Int) (dir name : ByteArray) (hs : aJ s ≤ 1048576) (hd : gN d ≤ 1048576) : FnC Tryz.prog 12 [bG s, .o (.d (.sl (d.map dG))), oi u, os dir, os name] (.o (.w 75 4 ((grpL s d u dir name).map fZ))) := by
 have hl := a5X s d u dir
 have hv := a4T s u
 refine ent Tryz.func12 rfl Tryz.call12 rfl (fun C => ?_); simp only [go_sem, st0, Tryz.ntmps12]
 have qH := trivial; repeat' (with_reducible first | refine nY ?_ | (refine mX ?_; try simp only [go_sem]) | refine kD ?_ | (apply rE [2,7,9] [] [0,1,3,4,5,6,8] [0,1,3,4,5,6,8] ((.c 2 [] [3,4,5,6,8] (.c 7 [] [8] (.c 9 [10] [10] .n .n) .n) .n)) (by simp only [go_sem]; rfl) (by simp only [go_sem]; rfl) (by simp only [go_sem]; rfl) (by decide +kernel); (focus simp only [go_sem]; done)) | exact bJ | refine aP (uX ?_) ?_ | refine aQ (aX ?_) ?_ | refine aR (aX ?_) ?_ | exact bY | exact oH | (refine uA ?_; simp only [go_sem]; (repeat' first | omega | refine And.intro ?_ ?_); done) | refine rD ?_ | refine cP (a1r s u (by omega)) ?_ | refine cP (a9g s d u dir (by omega) (by omega)) ?_ | refine cP (Opq.implGroup_ok 20 a8b (vis s u) (a1L s d u dir) name (by omega) (by omega) (by omega)) ?_ | refine aO ?_ | fail)
 exact aA ⟨⟨_, rfl, by simp only [go_sem, grpL]⟩, trivial⟩
theorem a5Y (s : TStore) (d : List TDir) (u : Int) (dir name : ByteArray) (hs : aJ s ≤ 1048576) (hd : gN d ≤ 1048576) : FnC Tryz.prog 13 [bG s, .o (.d (.sl (d.map dG))), oi u, os dir, os name] (.o (.w 75 4 ((grpL s d u dir name).map fZ))) := by
 have hl := a5X s d u dir
 have hv := a4T s u
 refine ent Tryz.func13 rfl Tryz.call13 rfl (fun C => ?_); simp only [go_sem, st0, Tryz.ntmps13]
 have qH := trivial; repeat' (with_reducible first | refine nY ?_ | (refine mX ?_; try simp only [go_sem]) | refine kD ?_ | (apply rE [2,7,9] [] [0,1,3,4,5,6,8] [0,1,3,4,5,6,8] ((.c 2 [] [3,4,5,6,8] (.c 7 [] [8] (.c 9 [10] [10] .n .n) .n) .n)) (by simp only [go_sem]; rfl) (by simp only [go_sem]; rfl) (by simp only [go_sem]; rfl) (by decide +kernel); (focus simp only [go_sem]; done)) | exact bJ | refine aP (uX ?_) ?_ | refine aQ (aX ?_) ?_ | refine aR (aX ?_) ?_ | exact bY | exact oH | (refine uA ?_; simp only [go_sem]; (repeat' first | omega | refine And.intro ?_ ?_); done) | refine rD ?_ | refine cP (qK s u (by omega)) ?_ | refine cP (a9h s d u dir (by omega) (by omega)) ?_ | refine cP (Opq.specGroup_ok (vis s u) (a1L s d u dir) name (by omega) (by omega)) ?_ | refine aO ?_ | fail)
 exact aA ⟨⟨_, rfl, by simp only [go_sem, grpL]⟩, trivial⟩
theorem a0x (l : List Int) (hl : l.length ≤ 67108864) : FnC Tryz.prog 14 [.o (.d (slI l)), .o (.d (slI l))] (ob true) := by
 refine ent Tryz.func14 rfl Tryz.call14 rfl (fun C => ?_); simp only [go_sem, st0, Tryz.ntmps14]
 have h0 : decide ((l.length : Int) = (l.length : Int)) = true := by simp
 have q0 := @h0; have q1 := @b2o; refine fM ?_
 refine aY (α := Nat) (fun k => [(5, oi k)]) (fun _ => []) (fun k => k ≤ l.length) (fun k => l.length - k) 0 (fun _ => ?_) ?_ ?_ (fun k hk => ?_)
 ·simp only [go_sem]
 ·simp only [go_sem]; simp
 ·simp
 ·simp only [go_sem]
  refine aD ?_
  refine cnd rfl (fun h => ?_) (fun h => ?_)
  ·simp only [decide_eq_true_eq, Int.ofNat_lt] at h
   have q0 := @h; refine jW ?_
   refine aF (k + 1) ?_ ?_ ?_
   ·simp only [go_sem]; simp
   ·exact h
   ·omega
  ·refine aD ?_
   exact aA ⟨⟨_, rfl, by simp only [go_sem]⟩, trivial⟩
theorem b4Y (l : List Int) (hl : l.length ≤ 9223372036854775807) : FnC Tryz.prog 5 [.o (.d (.sl (l.map rX)))] (ob (decide ((1048576 : Int) < (l.length : Int)))) := by
 refine ent Tryz.func5 rfl Tryz.call5 rfl (fun C => ?_); simp only [go_sem, st0, Tryz.ntmps5]
 refine aD ?_
 exact aA ⟨⟨_, rfl, by simp only [go_sem]⟩, trivial⟩
theorem a6m (g : TGroup) (hl : g.fIDs.length ≤ 67108864) : FnC Tryz.prog 35 [b2R g, b2R g] (ob true) := by
 refine ent Tryz.func35 rfl Tryz.call35 rfl (fun C => ?_); simp only [go_sem, st0, Tryz.ntmps35]
 have q0 := @decide_true; refine lK (a0x g.fIDs hl) ?_
 exact aA ⟨⟨_, rfl, by simp only [go_sem]⟩, trivial⟩
theorem a3T (l : List TGroup) (hl : mK l ≤ 67108864) : FnC Tryz.prog 11 [.o (.d (.sl (l.map fZ))), .o (.d (.sl (l.map fZ)))] (ob true) := by
 have hn : l.length ≤ 67108864 := by unfold mK at hl; omega
 refine ent Tryz.func11 rfl Tryz.call11 rfl (fun C => ?_); simp only [go_sem, st0, Tryz.ntmps11]
 have h0 : decide ((l.length : Int) = (l.length : Int)) = true := by simp
 have q0 := @h0; have q1 := @b2o; refine fM ?_
 refine aY (α := Nat) (fun k => [(5, oi k)]) (fun _ => []) (fun k => k ≤ l.length) (fun k => l.length - k) 0 (fun _ => ?_) ?_ ?_ (fun k hk => ?_)
 ·simp only [go_sem]
 ·simp only [go_sem]; simp
 ·simp
 ·simp only [go_sem]
  refine aD ?_
  refine cnd rfl (fun h => ?_) (fun h => ?_)
  ·simp only [decide_eq_true_eq, Int.ofNat_lt] at h
   have hm := dD a0L l h
   have hw1 : l[k].fIDs.length ≤ a0L l[k] := by unfold a0L; omega
   have hr := a6m l[k] (by unfold mK at hl; omega)
   have q0 := @h; refine lK hr ?_
   refine aF (k + 1) ?_ ?_ ?_
   ·simp only [go_sem]; simp
   ·exact h
   ·omega
  ·refine aD ?_
   exact aA ⟨⟨_, rfl, by simp only [go_sem]⟩, trivial⟩
def gsz (l : List TGroup) : List Int := l.map fun g => (g.fIDs.length : Int)
theorem a3B (l : List TGroup) : (gsz l).length = l.length := by simp [gsz]
theorem qR (l : List TGroup) (h : mK l ≤ 1048576) : FnC Tryz.prog 10 [.o (.d (.sl (l.map fZ)))] (.o (.w 3 1 ((gsz l).map gG))) := by
 unfold mK at h
 refine ent Tryz.func10 rfl Tryz.call10 rfl (fun C => ?_); simp only [go_sem, st0, Tryz.ntmps10]
 refine aD ?_
 refine aY (α := Nat) (fun k => [(3, .o (.s 0)), (6, .o .u), (9, oi k)]) (fun k => [(0, .row 3 1 ((gsz (l.take k)).map gG) true)]) (fun k => k ≤ l.length) (fun k => l.length - k) 0 (fun _ => ?_) ?_ ?_ (fun k hk => ?_)
 ·simp only [go_sem]
 ·simp only [go_sem]; simp [gsz]
 ·simp
 ·simp only [go_sem]
  refine aD ?_
  refine cnd rfl (fun h1 => ?_) (fun h1 => ?_)
  ·simp only [decide_eq_true_eq, Int.ofNat_lt] at h1
   have ht : gsz (l.take (k + 1)) = gsz (l.take k) ++ [(l[k].fIDs.length : Int)] := by simp only [gsz, List.take_succ_eq_append_getElem h1, List.map_append, List.map_cons, List.map_nil]
   have hlen : (gsz (l.take k)).length = k := by rw [a3B]; simp; omega
   have q0 := @h1; have q1 := @hlen; refine fM ?_
   refine aF (k + 1) ?_ ?_ ?_
   ·simp only [go_sem, ht, List.map_append]; simp
   ·omega
   ·omega
  ·simp only [decide_eq_false_iff_not] at h1
   have e : k = l.length := by omega
   subst e
   refine aD ?_
   exact aA ⟨⟨_, rfl, by simp only [go_sem, List.take_length]⟩, trivial⟩
end Go.Proofs.YtakopfjdmmnjcaaGreat
end
