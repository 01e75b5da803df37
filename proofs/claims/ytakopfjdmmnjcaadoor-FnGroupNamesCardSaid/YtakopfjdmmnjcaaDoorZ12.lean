/- Joined texts. -/
import Derived.Test.YtakopfjdmmnjcaaDoorZ11
import Derived.Test.YtakopfjdmmnjcaaDoorZ08
import Derived.Sort.LotA
import Derived.Sort.WalkA
import Derived.Test.YtakopfjdmmnjcaaDoorZ10
import Derived.Test.YtakopfjdmmnjcaaDoorZ09
import Derived.Test.YtakopfjdmmnjcaaDoorZ07
set_option linter.all false
section
set_option maxRecDepth 100000
set_option maxHeartbeats 4000000
namespace Go.Proofs.YtakopfjdmmnjcaaDoor
open Go Go.Sx Go.RowKit Go.Proofs Go.Sort
instance inhO : Inhabited aP := ⟨(⟨⟨0, 0, ⟨#[]⟩⟩, []⟩, .slice none 0 0)⟩
theorem a8v {f ty sz : Nat} {fn : Func} {c : Code} {rows rows' : List (List D)} {args : List SV} (hf : Tryd.prog.funcs[f]? = some fn) (hb : fn.body = some c) (hcall : ∀ x w, (callFunc f x).run Tryd.prog w = .ok (.enter f x) w) (hres : fn.results = #[])
    (hfl : dY rows = true) (hfl' : dY rows' = true) (hlen : rows'.length = rows.length) (h0 : rows = [] → FnC Tryd.prog f (.o (.d (.sl [])) :: args) (.t []))
    (h : rows ≠ [] → ∀ (C : Ctx) (y : Value), WP Tryd.prog C c (aT Tryd.prog C [] (a7N ty sz rows' y)) (stI ty sz rows y args fn.ntmps)) : FnI Tryd.prog f ty sz rows args true rows' := FnI.of_wp (eqk := eqk) ttOK hf hb hcall hres hfl hfl' hlen h0 h
attribute [go_sem] stI
def dN (d : Array aP) : List (List D) := d.toList.map jO
theorem gX (d : Array aP) : dY (dN d) = true := by
 unfold dY dN
 simp [jO, isV]
theorem gB (d : Array aP) : (dN d).length = d.size := by simp [dN]
theorem tH {d : Array aP} (h : dN d = []) : d.size = 0 := by rw [← gB, h]; rfl
theorem iI (d : Array aP) (i : Nat) (h : i < d.toList.length) : d.toList[i] = d[i]! := by
 rw [getElem!_pos d i (by simpa using h)]; rfl
theorem a4B (d : Array aP) (i j : Nat) (hi : i < d.toList.length) (hj : j < d.toList.length) : ((d.toList.map jO).set i (jO d.toList[j])).set j (jO d.toList[i]) = dN (swp d i j) := by
 unfold dN swp
 rw [Array.toList_setIfInBounds, Array.toList_setIfInBounds, List.map_set, List.map_set, iI d i hi, iI d j hj]
theorem a7d (L : List (List D)) {i j : Nat} (h : i ≠ j) (r : List D) : dB (L.set i r) j = dB L j := by
 simp only [dB, List.getD_eq_getElem?_getD, List.getElem?_set_ne h]
def ltO (a b : aP) : Bool := decide (cmpV a.1.fValue b.1.fValue < 0)
theorem a7e (p q : aP) : FnC Tryd.prog 23 [gO p, gO q] (oi (cmpV p.1.fValue q.1.fValue)) := by
 refine ent Tryd.func23 rfl Tryd.call23 rfl (fun C => ?_); simp only [go_sem, st0, Tryd.ntmps23]
 refine wM (xF p.1.fValue q.1.fValue) ?_
 exact aA ⟨⟨_, rfl, by simp only [go_sem]⟩, trivial⟩
theorem oW (a : Nat) : ∀ (j : Nat) (d : Array aP), (insInner ltO a j d).size = d.size
 | 0, d => rfl
 | j + 1, d => by
  unfold insInner
  split
  ·rw [oW a j, swp_size]
  ·rfl
theorem xE (a b : Nat) : ∀ (n i : Nat) (d : Array aP), b - i = n → (insOuter ltO a b i d).size = d.size
 | 0, i, d, h => by rw [insOuter_stop _ _ _ _ _ (by omega)]
 | n + 1, i, d, h => by rw [insOuter_go _ _ _ _ _ (by omega), xE a b n (i + 1) _ (by omega), oW]
theorem uE : FnC Tryd.prog 61 [.o (.d (.sl [])), oi 0, oi 0, .o (.f 23 [])] (.t []) := by
 refine ent Tryd.func61 rfl Tryd.call61 rfl (fun C => ?_); simp only [go_sem, st0, Tryd.ntmps61]
 refine aL ?_
 refine bX (α := Unit) (fun _ => [(8, oi 1)]) (fun _ => []) (fun _ => True) (fun _ => 0) () (fun _ => ?_) ?_ trivial (fun _ _ => ?_)
 ·simp only [go_sem]
 ·simp only [go_sem]; simp
 ·simp only [go_sem]
  refine aL ?_
  exact mR ⟨⟨_, rfl, by simp only [go_sem]⟩, by simp [fK]⟩
theorem qE (d : Array aP) (a b : Nat) (hab : a ≤ b) (hb : b ≤ d.size) (hsz : d.size ≤ 1048576) :
    FnI Tryd.prog 61 39 4 (dN d) [oi a, oi b, .o (.f 23 [])] true (dN (Sort.insertionSort ltO d a b)) := by
 refine a8v Tryd.func61 rfl Tryd.call61 rfl (gX d) (gX _) (by rw [gB, gB]; exact xE a b _ _ d rfl) (fun h0 => ?_) (fun hne C y => ?_)
 ·have h1 := tH h0
  have ha : a = 0 := by omega
  have hb' : b = 0 := by omega
  subst ha hb'
  exact uE
 ·simp only [go_sem, Tryd.ntmps61]
  refine aL ?_
  refine bX (α := Nat × Array aP) (fun x => [(8, oi x.1)]) (fun x => [(0, .row 39 4 (dN x.2) true)]) (fun x => a < x.1 ∧ x.1 ≤ b + 1 ∧ x.2.size = d.size ∧ insOuter ltO a b x.1 x.2 = insOuter ltO a b (a + 1) d) (fun x => b + 1 - x.1) (a + 1, d) (fun _ => ?_) ?_ ?_ (fun x hx => ?_)
  ·simp only [go_sem]
  ·simp only [go_sem]; simp
  ·exact ⟨by simp, by simp only; omega, rfl, rfl⟩
  ·obtain ⟨i, dk⟩ := x
   obtain ⟨h1, h2, h3, h4⟩ := hx
   simp only at h1 h2 h3 h4
   simp only [go_sem]
   by_cases hlt : i < b
   ·have hlt' : ((i : Int) < (b : Int)) = True := by simp [hlt]
    have q0 := @hlt'; have q1 := @decide_true; refine iK ?_
    refine bX (α := Nat × Array aP) (fun x => [(9, oi x.1)]) (fun x => [(0, .row 39 4 (dN x.2) true)]) (fun x => a ≤ x.1 ∧ x.1 ≤ i ∧ x.2.size = d.size ∧ insInner ltO a x.1 x.2 = insInner ltO a i dk) (fun x => x.1) (i, dk) (fun _ => ?_) ?_ ?_ (fun x hx => ?_)
    ·simp only [go_sem]
    ·simp only [go_sem]; simp
    ·exact ⟨by simp only; omega, by simp, h3, rfl⟩
    ·obtain ⟨j, dj⟩ := x
     obtain ⟨k1, k2, k3, k4⟩ := hx
     simp only at k1 k2 k3 k4
     simp only [go_sem]
     by_cases hja : a < j
     ·obtain ⟨jp, rfl⟩ : ∃ jp, j = jp + 1 := ⟨j - 1, by omega⟩
      have hg : ((a : Int) < ((jp + 1 : Nat) : Int)) = True := by simp; omega
      have he : ((jp + 1 : Nat) : Int) - 1 = (jp : Int) := by omega
      have l1 : jp + 1 < dj.toList.length := by simp; omega
      have l0 : jp < dj.toList.length := by omega
      have hc := a7e dj.toList[jp + 1] dj.toList[jp]
      simp only [dN]
      have qH := aI @hg (aI @he (aI @l1 (aI @l0 @decide_true))); repeat' (with_reducible first | refine nY ?_ | (refine mX ?_; try simp only [go_sem, qH]) | refine kD ?_ | refine rT [16] [] ?_ | refine rG (aX ?_) (uX ?_) | refine wL (aX ?_) ?_ | (refine uA ?_; simp only [go_sem, qH]; (repeat' first | omega | refine And.intro ?_ ?_ | refine cP hc ?_ | (refine mX ?_; simp only [go_sem, qH] <;> fail)); done) | refine rD ?_ | refine cP hc ?_ | refine aO ?_ | fail)
      refine cnd (b := ltO dj.toList[jp + 1] dj.toList[jp]) rfl (fun h5 => ?_) (fun h5 => ?_)
      ·have hsw := a4B dj (jp + 1) jp l1 l0
       simp only [jO] at hsw
       have hrw : ∀ (L : List (List D)) (r : List D), dB (L.set (jp + 1) r) jp = dB L jp := fun L r => a7d L (by omega) r
       repeat' (with_reducible first | refine nY ?_ | (refine mX ?_; try simp only [go_sem, hg, he, l1, l0, decide_true, List.length_set, hrw]) | refine kO ?_ (by decide) | (apply rE [15,17] [] [0,1,2,3,4,5,6,7,8,9,10,11,12,13,14] [0,1,2,3,4,5,6,7,8,9,10,11,12,13,14] ((.c 15 [16] [2,3,4,16] (.c 17 [] [] .n .n) .n)) (by simp only [go_sem]; rfl) (by simp only [go_sem]; rfl) (by simp only [go_sem]; rfl) (by decide +kernel); (focus simp only [go_sem]; done)) | exact bQ | (refine bC (uX ?_) ?_) | refine bD (aX ?_) ?_ | refine bE (aX ?_) ?_ | exact dA | (refine oG ?_; (focus simp only [go_sem]; done)) | (refine uA ?_; simp only [go_sem, hg, he, l1, l0, decide_true, List.length_set, hrw]; (repeat' first | omega | refine And.intro ?_ ?_); done) | refine regd (by kernel_rfl) ?_ | (refine And.intro ?_ ?_; focus omega))
       refine bF (jp, swp dj (jp + 1) jp) ?_ ?_ ?_
       ·simp only [go_sem]; simp
        exact hsw
       ·refine ⟨by simp only; omega, by simp only; omega, by rw [swp_size]; exact k3, ?_⟩
        simp only
        rw [← k4, insInner_go ltO a (jp + 1) dj hja (by rw [iI, iI] at h5; exact h5)]
        rfl
       ·simp only; omega
      ·refine aL ?_
       refine bF (i + 1, dj) ?_ ?_ ?_
       ·simp only [go_sem]; simp [dN]
       ·refine ⟨by simp only; omega, by simp only; omega, k3, ?_⟩
        simp only
        rw [← h4, insOuter_go _ _ _ _ _ hlt, ← k4, insInner_stop ltO a (jp + 1) dj (.inr (by rw [iI, iI] at h5; exact h5))]
       ·simp only; omega
     ·have hg : ((a : Int) < (j : Int)) = False := by simp; omega
      simp only [dN]
      have qH := aI @hg @decide_false; repeat' (with_reducible first | refine nY ?_ | (refine mX ?_; try simp only [go_sem, qH]) | refine kD ?_ | refine rT [16] [] ?_ | refine rG (aX ?_) (uX ?_) | refine wL (aX ?_) ?_ | exact uB | refine rD ?_ | refine aO ?_ | fail)
      refine bF (i + 1, dj) ?_ ?_ ?_
      ·simp only [go_sem]; simp [dN]
      ·refine ⟨by simp only; omega, by simp only; omega, k3, ?_⟩
       simp only
       rw [← h4, insOuter_go _ _ _ _ _ hlt, ← k4, insInner_stop ltO a j dj (.inl (by omega))]
      ·simp only; omega
   ·have hlt' : ((i : Int) < (b : Int)) = False := by simp [hlt]
    have hfin : dk = Sort.insertionSort ltO d a b := by
     unfold Sort.insertionSort
     rw [← h4, insOuter_stop _ _ _ _ _ hlt]
    subst hfin
    have q0 := @hlt'; have q1 := @decide_false; refine iK ?_
    exact kG rfl rfl
end Go.Proofs.YtakopfjdmmnjcaaDoor
end
section
set_option maxRecDepth 100000
set_option maxHeartbeats 4000000
namespace Go.Proofs.YtakopfjdmmnjcaaDoor
open Go Go.Sx Go.RowKit Go.Proofs
theorem a0D (s : TStore) (id : Int) (h : bM s ≤ 4300000) : FnC Tryd.prog 26 [fA s, oi id] (.t [(true, (mI (eG id s.fFiles)).cells), (false, [.d (bv (decide (0 ≤ ixF id s.fFiles)))])]) := (a1N s id h).pu (by simp only [go_sem, and_self])
def gN (v : TValue) : List aP → Nat
 | [] => 0
 | p :: l => if cmpV p.1.fValue v < 0 then gN v l + 1 else 0
theorem a7c (v : TValue) : ∀ {l : List aP} {n : Nat} (h : n < l.length), gN v l = n + gN v (l.drop n) → gN v l = if cmpV l[n].1.fValue v < 0 then n + 1 + gN v (l.drop (n + 1)) else n := fun {l n} h e => by
 rw [e, List.drop_eq_getElem_cons h, gN]
 split <;> omega
theorem a1O (v : TValue) (id : Int) (z' : Value) : ∀ {its : List aP} (h : gN v its < its.length), jP v its[gN v its] = true →
    dF (its.map (·.1)) (v, id) = (its.set (gN v its) (⟨its[gN v its].1.fValue, its[gN v its].1.fIDs ++ [id]⟩, z')).map (·.1)
 | [], h, _ => by simp at h
 | p :: l, h, h1 => by
  by_cases hc : cmpV p.1.fValue v < 0
  ·have e : gN v (p :: l) = gN v l + 1 := by simp [gN, hc]
   simp only [e, List.getElem_cons_succ, List.set_cons_succ, List.map_cons, dF, hc, if_true] at h1 ⊢
   rw [a1O v id z' (by rw [e] at h; simpa using h) h1]
  ·have e : gN v (p :: l) = 0 := by simp [gN, hc]
   simp only [e, List.getElem_cons_zero] at h1 ⊢
   have hv : p.1.fValue = v := (lG _ _).1 h1
   simp only [hv] at hc
   simp [dF, hc, hv]
theorem xD (v : TValue) (id : Int) (z : Value) : ∀ {its : List aP}, (∀ h : gN v its < its.length, jP v its[gN v its] = false) →
    dF (its.map (·.1)) (v, id) = (its.take (gN v its) ++ [((⟨v, [id]⟩ : TGroup), z)] ++ its.drop (gN v its)).map (·.1)
 | [], _ => rfl
 | p :: l, h => by
  by_cases hc : cmpV p.1.fValue v < 0
  ·have e : gN v (p :: l) = gN v l + 1 := by simp [gN, hc]
   have ih := xD v id z (its := l) fun hl => by
    have := h (by rw [e]; simpa using hl)
    simpa only [e, List.getElem_cons_succ] using this
   simp only [e, List.map_cons, dF, hc, if_true, List.take_succ_cons, List.drop_succ_cons, List.cons_append]
   rw [ih]
  ·have e : gN v (p :: l) = 0 := by simp [gN, hc]
   have h1 := h (by rw [e]; simp)
   simp only [e, List.getElem_cons_zero] at h1
   have hv : ¬ p.1.fValue = v := fun k => by rw [jP, (lG _ _).2 k] at h1; cases h1
   simp [dF, hc, hv, e]
theorem a1P (x : TValue × Int) : ∀ l : List TGroup, bL (fun g => g.fIDs.length) (dF l x) = bL (fun g => g.fIDs.length) l + 1 ∧ (dF l x).length ≤ l.length + 1
 | [] => by simp [dF, bL]
 | g :: l => by
  have ih := a1P x l
  unfold dF
  split
  ·simp [bL]; omega
  ·split
   ·simp [bL]; omega
   ·simp [bL]; omega
theorem a3K (xs : List (TValue × Int)) : ∀ l : List TGroup, bL (fun g => g.fIDs.length) (xs.foldl dF l) = bL (fun g => g.fIDs.length) l + xs.length ∧ (xs.foldl dF l).length ≤ l.length + xs.length := by
 induction xs with
 | nil => intro l; simp
 | cons x xs ih =>
  intro l
  have h1 := a1P x l
  have h2 := ih (dF l x)
  simp only [List.foldl_cons, List.length_cons]
  omega
def uO (n : Nat) (v : TValue) (id : Int) (z : Value) (l : List aP) : List aP := l.take n ++ [((⟨v, [id]⟩ : TGroup), z)] ++ l.drop n
theorem zG (n : Nat) (v : TValue) (id : Int) (z : Value) (l : List aP) : (l.map nM ++ [(z, [[Value.int .i64 id]])]).Perm ((uO n v id z l).map nM) := by
 have e : l.map nM ++ [(z, [[Value.int .i64 id]])] = (l ++ [((⟨v, [id]⟩ : TGroup), z)]).map nM := by simp [nM]
 rw [e]
 refine List.Perm.map _ ?_
 unfold uO
 conv => lhs; rw [← List.take_append_drop n l]
 rw [List.append_assoc, List.append_assoc]
 exact List.Perm.append_left _ List.perm_append_comm
theorem iW (n : Nat) (v : TValue) (id : Int) (z : Value) (l : List aP) : (uO n v id z l).map jO = (l.take n).map jO ++ [[iv v.fKind, iv v.fInt, sv v.fStr, .v z]] ++ (l.drop n).map jO := by simp [uO, jO]
namespace Opq
theorem specGroup_ok (s : TStore) (ids : List Int) (name : ByteArray) (h : bM s ≤ 1048576) (hi : ids.length ≤ 1048576) :
    FnC Tryd.prog 8 [fA s, .o (.d (.sl (ids.map gL))), os name] (.o (.w 39 4 (((bP s ids name).foldl dF []).map dJ))) := by
 refine ent Tryd.func8 rfl Tryd.call8 rfl (fun C => ?_); simp only [go_sem, st0, Tryd.ntmps8]
 refine aL ?_
 refine WP.sees (Sees.pool0 3 1) ?_
 simp only [go_sem]
 refine bX (α := Nat × List aP) (fun x => [(7, .o (.s 1)), (8, oi x.1), (14, .o .u)]) (fun x => [(1, .row 39 4 (x.2.map jO) true), (2, .pool 3 1 (x.2.map nM))]) (fun x => x.1 ≤ ids.length ∧ x.2.map (·.1) = ((bP s ids name).take x.1).foldl dF []) (fun x => ids.length - x.1) (0, []) (fun _ => ?_) ?_ ?_ (fun x hx => ?_)
 ·simp only [go_sem]
 ·simp only [go_sem]; simp
 ·simp
 ·obtain ⟨k, its⟩ := x
  obtain ⟨hk, hq⟩ := hx
  simp only at hk hq
  simp only [go_sem]
  refine aL ?_
  refine cnd rfl (fun h1 => ?_) (fun h1 => ?_)
  ·simp only [decide_eq_true_eq, Int.ofNat_lt] at h1
   have hfw : dC (eG ids[k] s.fFiles) ≤ 4300000 := by have := a0C ids[k] s.fFiles; unfold bM at h; omega
   have hG := wZ (eG ids[k] s.fFiles) name hfw
   have hvk : (bP s ids name).take (k + 1) = (bP s ids name).take k ++ [(getAttr name (eG ids[k] s.fFiles).fAttrs, ids[k])] := by
    rw [List.take_succ_eq_append_getElem (by simpa [bP] using h1)]
    simp [bP]
   generalize getAttr name (eG ids[k] s.fFiles).fAttrs = v at hG hvk
   have hsum := a3K ((bP s ids name).take k) []
   rw [← hq] at hsum
   have hvl : ((bP s ids name).take k).length = k := by simp [bP]; omega
   rw [hvl] at hsum
   simp only [bL, List.length_nil, List.length_map, Nat.zero_add] at hsum
   have hil : its.length ≤ k := hsum.2
   have hF := a0D s ids[k] (by omega)
   have qH := @h1; repeat' (with_reducible first | refine nY ?_ | (refine mX ?_; try simp only [go_sem, qH]) | refine kD ?_ | (apply rE [5,9,10] [] [0,1,2,3,4] [0,1,2,3,4] ((.c 5 [6,7,8] [6,7,8] (.c 9 [] [6,7,8] (.c 10 [11] [8,11] .n .n) .n) (.c 9 [] [0,1,2,3,4] (.c 5 [6,7,8] [6,7,8] (.c 10 [11] [8,11] .n .n) .n) .n))) (by simp only [go_sem]; rfl) (by simp only [go_sem]; rfl) (by simp only [go_sem]; rfl) (by decide +kernel); (focus simp only [go_sem]; done)) | exact bQ | refine bC (uX ?_) ?_ | refine bD (aX ?_) ?_ | refine bE (aX ?_) ?_ | exact dA | exact oH | exact uB | refine rD ?_ | refine cP hF ?_ | refine cP hG ?_ | refine aO ?_ | fail)
   have hC := fun p : aP => xG p.1.fValue v
   refine bX (α := Nat) (fun n => [(12, oi n)]) (fun _ => []) (fun n => n ≤ its.length ∧ gN v its = n + gN v (its.drop n)) (fun n => its.length - n) 0 (fun _ => ?_) ?_ ?_ (fun n hn => ?_)
   ·simp only [go_sem]
   ·simp only [go_sem]; simp
   ·simp
   ·obtain ⟨hn, hf⟩ := hn
    simp only [go_sem]
    by_cases h5 : n < its.length
    ·have hfx := a7c v h5 hf
     have h5' : ((n : Int) < (its.length : Int)) = True := by simp [h5]
     have qH := aI @h5 (aI @h5' @decide_true); repeat' (with_reducible first | refine nY ?_ | (refine mX ?_; try simp only [go_sem, qH]) | refine kD ?_ | refine rT [13] [] ?_ | refine rG (aX ?_) (uX ?_) | refine wL (aX ?_) ?_ | (refine uA ?_; simp only [go_sem, qH]; (repeat' first | omega | refine And.intro ?_ ?_ | refine cP (hC its[n]) ?_ | (refine mX ?_; simp only [go_sem, qH] <;> fail)); done) | refine rD ?_ | refine cP (hC its[n]) ?_ | refine aO ?_ | fail)
     refine cnd rfl (fun h6 => ?_) (fun h6 => ?_)
     ·simp only [decide_eq_true_eq] at h6
      rw [if_pos h6] at hfx
      refine aL ?_
      refine bF (n + 1) ?_ ?_ ?_
      ·simp only [go_sem]; simp
      ·exact ⟨by omega, hfx⟩
      ·omega
     ·simp only [decide_eq_false_iff_not] at h6
      rw [if_neg h6] at hfx
      have qH := aI @h5 (aI @h5' @decide_true); repeat' (with_reducible first | refine nY ?_ | (refine mX ?_; try simp only [go_sem, qH]) | refine kD ?_ | refine rT [12] [] ?_ | refine rG (aX ?_) (uX ?_) | refine wL (aX ?_) ?_ | exact uB | refine rD ?_ | refine aO ?_ | fail)
      refine cnd (b := jP v its[n]) rfl (fun h7 => ?_) (fun h7 => ?_)
      ·have qH := aI @h5 (aI @h5' (aI @h1 @decide_true)); repeat' (with_reducible first | refine nY ?_ | (refine mX ?_; try simp only [go_sem, qH]) | refine kD ?_ | (apply rF [11,12,15] [] [0,1,2,3,4,5,6,7,8,9,10] [0,1,2,3,4,5,6,7,8,9,10] ((.c 11 [] [0,1,2,3,4,5,6] (.c 12 [13,14] [0,1,13,14] (.c 15 [] [] .n .n) .n) .n)) (by simp only [go_sem]; rfl) (by simp only [go_sem]; rfl) (by simp only [go_sem]; rfl) (by decide +kernel); (focus simp only [go_sem]; done)) | exact bQ | refine bC (uX ?_) ?_ | refine bD (aX ?_) ?_ | refine bE (aX ?_) ?_ | exact dA | exact oH | exact uB | refine rD ?_ | refine aO ?_ | fail)
       refine ⟨by simp, a5m fun z2 => ?_⟩
       have qH := aI @h5 (aI @h5' (aI @h1 @decide_true)); repeat' (with_reducible first | refine nY ?_ | (refine mX ?_; try simp only [go_sem, qH]) | refine kD ?_ | exact bQ | refine bC (uX ?_) ?_ | refine bD (aX ?_) ?_ | refine bE (aX ?_) ?_ | exact uB | refine rD ?_ | refine aO ?_ | fail)
       refine a7M 2 n 5 (its[n].1.fIDs.map fun i => [.int .i64 i]) [[.int .i64 ids[k]]] rfl rfl ?_ (List.mem_singleton.2 rfl) (by simp) ?_ (fun z' => ?_)
       ·rw [List.getElem?_map, List.getElem?_eq_getElem h5]; rfl
       ·have hi2 := eD (fun g : TGroup => g.fIDs.length) (its.map (·.1)) (k := n) (by simpa using h5)
        simp only [List.getElem_map] at hi2
        simp only [go_sem, List.length_map, List.length_cons, List.length_nil]
        omega
       ·simp only [go_sem]
        have qH := aI @h5 (aI @h5' (aI @h1 @decide_true)); repeat' (with_reducible first | refine nY ?_ | (refine mX ?_; try simp only [go_sem, qH]) | refine kD ?_ | exact bQ | refine bC (uX ?_) ?_ | refine bD (aX ?_) ?_ | refine bE (aX ?_) ?_ | exact uB | refine rD ?_ | refine aO ?_ | fail)
        refine bF (k + 1, its.set n (⟨its[n].1.fValue, its[n].1.fIDs ++ [ids[k]]⟩, z')) ?_ ?_ ?_
        ·simp only [go_sem]; simp [List.map_set, jO, nM]
        ·refine ⟨h1, ?_⟩
         simp only
         rw [hvk, List.foldl_append, ← hq]
         simp only [List.foldl_cons, List.foldl_nil]
         subst hfx
         exact (a1O v ids[k] z' h5 h7).symm
        ·simp only; omega
      ·have hins : ∀ z2, (uO n v ids[k] z2 its).map (·.1) = ((bP s ids name).take (k + 1)).foldl dF [] := fun z2 => by
        rw [hvk, List.foldl_append, ← hq]
        simp only [List.foldl_cons, List.foldl_nil]
        subst hfx
        exact (xD v ids[k] z2 fun hl => h7).symm
       refine WP.sees (Sees.frz 1 rfl) ?_
       simp only [go_sem]
       have qH := aI @h5 (aI @h5' (aI @h1 (aI @fT (aI @fU (aI @rH (aI @rJ @a0k)))))); repeat' (with_reducible first | refine nY ?_ | (refine mX ?_; try simp only [go_sem, qH]) | refine kD ?_ | (apply rF [0,4,10,12,13] [] [1,2,3,5,6,7,8,9] [1,2,3,5,6,7,8,9] ((.c 0 [] [1,2,3,5,6,7,8,9] (.c 4 [] [5,6,7,8,9] (.c 10 [11] [5,11] (.c 12 [] [] (.c 13 [14] [14] .n .n) .n) .n) (.c 10 [11] [1,2,3,5,11] (.c 4 [] [5,11] (.c 12 [] [] (.c 13 [14] [14] .n .n) .n) (.c 12 [] [1,2,3] (.c 4 [] [] (.c 13 [14] [14] .n .n) .n) .n)) .n)) (.c 10 [11] [1,2,3,5,11] (.c 0 [] [1,2,3,5,11] (.c 4 [] [5,11] (.c 12 [] [] (.c 13 [14] [14] .n .n) .n) (.c 12 [] [1,2,3] (.c 4 [] [] (.c 13 [14] [14] .n .n) .n) .n)) (.c 12 [] [1,2,3] (.c 0 [] [1,2,3] (.c 4 [] [] (.c 13 [14] [14] .n .n) .n) .n) .n)) .n))) (by simp only [go_sem]; rfl) (by simp only [go_sem]; rfl) (by simp only [go_sem]; rfl) (by decide +kernel); (focus simp only [go_sem]; done)) | exact bQ | refine bC (uX ?_) ?_ | refine bD (aX ?_) ?_ | refine bE (aX ?_) ?_ | exact dA | exact oH | exact uB | refine rD ?_ | refine aO ?_ | fail)
       all_goals
        refine ⟨by simp, a5m fun z2 => ?_⟩
        have qH := aI @h5 (aI @h5' (aI @h1 (aI @fT (aI @fU (aI @rH (aI @rJ @a0k)))))); repeat' (with_reducible first | refine nX ?_ | (refine mX ?_; try simp only [go_sem, qH]) | refine kD ?_ | exact bQ | refine bC (uX ?_) ?_ | refine bD (aX ?_) ?_ | refine bE (aX ?_) ?_ | exact uB | refine aO ?_ | fail)
       all_goals
        first | refine WP.sees (Sees.poolM 2 5 rfl rfl (by decide)) ?_ | refine WP.sees (Sees.poolM 2 6 rfl rfl (by decide)) ?_ | refine WP.sees (Sees.poolM 2 7 rfl rfl (by decide)) ?_
        refine WP.sees (Sees.poolP 2 rfl (zG n v ids[k] z2 its)) ?_
        simp only [go_sem]
        have q0 := @h5; have q1 := @h5'; have q2 := @h1; have q3 := @fT; have q4 := @fU; have q5 := @rH; have q6 := @rJ; have q7 := @a0k; refine a7Q ?_
       all_goals
        first
        | (refine lK [(1, 5)] (k + 1, uO n v ids[k] z2 its) (by simp only [go_sem]; rfl) ?_ ⟨h1, hins z2⟩ (by simp only; omega)
           simp only [go_sem]
           simp [iW]
           done)
        | (refine lK [(1, 6)] (k + 1, uO n v ids[k] z2 its) (by simp only [go_sem]; rfl) ?_ ⟨h1, hins z2⟩ (by simp only; omega)
           simp only [go_sem]
           simp [iW]
           done)
        | (refine lK [(1, 7)] (k + 1, uO n v ids[k] z2 its) (by simp only [go_sem]; rfl) ?_ ⟨h1, hins z2⟩ (by simp only; omega)
           simp only [go_sem]
           simp [iW]
           done)
    ·have e : n = its.length := by omega
     have hfx : gN v its = n := by rw [hf, e, List.drop_length]; rfl
     have h5' : ((n : Int) < (its.length : Int)) = False := by simp [h5]
     have hins : ∀ z2, (uO n v ids[k] z2 its).map (·.1) = ((bP s ids name).take (k + 1)).foldl dF [] := fun z2 => by
      rw [hvk, List.foldl_append, ← hq]
      simp only [List.foldl_cons, List.foldl_nil]
      subst hfx
      exact (xD v ids[k] z2 fun hl => by omega).symm
     refine WP.sees (Sees.frz 1 rfl) ?_
     simp only [go_sem]
     have qH := aI @h5 (aI @h5' (aI @h1 (aI @decide_false (aI @fT (aI @fU (aI @rH (aI @rJ @a0k))))))); repeat' (with_reducible first | refine nY ?_ | (refine mX ?_; try simp only [go_sem, qH]) | refine kD ?_ | (apply rF [0,4,10,12,13] [] [1,2,3,5,6,7,8,9] [1,2,3,5,6,7,8,9] ((.c 0 [] [1,2,3,5,6,7,8,9] (.c 4 [] [5,6,7,8,9] (.c 10 [11] [5,11] (.c 12 [] [] (.c 13 [14] [14] .n .n) .n) .n) (.c 10 [11] [1,2,3,5,11] (.c 4 [] [5,11] (.c 12 [] [] (.c 13 [14] [14] .n .n) .n) (.c 12 [] [1,2,3] (.c 4 [] [] (.c 13 [14] [14] .n .n) .n) .n)) .n)) (.c 10 [11] [1,2,3,5,11] (.c 0 [] [1,2,3,5,11] (.c 4 [] [5,11] (.c 12 [] [] (.c 13 [14] [14] .n .n) .n) (.c 12 [] [1,2,3] (.c 4 [] [] (.c 13 [14] [14] .n .n) .n) .n)) (.c 12 [] [1,2,3] (.c 0 [] [1,2,3] (.c 4 [] [] (.c 13 [14] [14] .n .n) .n) .n) .n)) .n))) (by simp only [go_sem]; rfl) (by simp only [go_sem]; rfl) (by simp only [go_sem]; rfl) (by decide +kernel); (focus simp only [go_sem]; done)) | exact bQ | refine bC (uX ?_) ?_ | refine bD (aX ?_) ?_ | refine bE (aX ?_) ?_ | exact dA | exact oH | exact uB | refine rD ?_ | (refine rT [13] [] ?_) | (refine rG (aX ?_) (uX ?_)) | (refine wL (aX ?_) ?_) | refine aO ?_ | fail)
     all_goals
      refine ⟨by simp, a5m fun z2 => ?_⟩
      have qH := aI @h5 (aI @h5' (aI @h1 (aI @fT (aI @fU (aI @rH (aI @rJ @a0k)))))); repeat' (with_reducible first | refine nX ?_ | (refine mX ?_; try simp only [go_sem, qH]) | refine kD ?_ | exact bQ | refine bC (uX ?_) ?_ | refine bD (aX ?_) ?_ | refine bE (aX ?_) ?_ | exact uB | refine aO ?_ | fail)
     all_goals
      first | refine WP.sees (Sees.poolM 2 5 rfl rfl (by decide)) ?_ | refine WP.sees (Sees.poolM 2 6 rfl rfl (by decide)) ?_ | refine WP.sees (Sees.poolM 2 7 rfl rfl (by decide)) ?_
      refine WP.sees (Sees.poolP 2 rfl (zG n v ids[k] z2 its)) ?_
      simp only [go_sem]
      have q0 := @h5; have q1 := @h5'; have q2 := @h1; have q3 := @fT; have q4 := @fU; have q5 := @rH; have q6 := @rJ; have q7 := @a0k; refine a7Q ?_
     all_goals
      first
      | (refine lK [(1, 5)] (k + 1, uO n v ids[k] z2 its) (by simp only [go_sem]; rfl) ?_ ⟨h1, hins z2⟩ (by simp only; omega)
         simp only [go_sem]
         simp [iW]
         done)
      | (refine lK [(1, 6)] (k + 1, uO n v ids[k] z2 its) (by simp only [go_sem]; rfl) ?_ ⟨h1, hins z2⟩ (by simp only; omega)
         simp only [go_sem]
         simp [iW]
         done)
      | (refine lK [(1, 7)] (k + 1, uO n v ids[k] z2 its) (by simp only [go_sem]; rfl) ?_ ⟨h1, hins z2⟩ (by simp only; omega)
         simp only [go_sem]
         simp [iW]
         done)
  ·simp only [decide_eq_false_iff_not] at h1
   have e : k = ids.length := by omega
   subst e
   have hvl : (bP s ids name).length = ids.length := by simp [bP]
   rw [← hvl, List.take_length] at hq
   rw [← hq]
   refine aL ?_
   refine xU (Sees.unpool 1 2 (its.map itO) (by rw [List.map_map]; rfl) rfl (by rw [List.map_map]; exact List.Perm.refl _)) ?_
   simp only [go_sem]
   have hclr : (its.map itO).map kM = (its.map (·.1)).map dJ := by
    rw [List.map_map, List.map_map]
    exact List.map_congr_left fun p _ => a3L p
   exact aA ⟨⟨_, rfl, by simp only [go_sem, hclr]⟩, trivial⟩
end Opq
end Go.Proofs.YtakopfjdmmnjcaaDoor
end
section
set_option maxRecDepth 100000
set_option maxHeartbeats 4000000
namespace Go.Proofs.YtakopfjdmmnjcaaDoor
open Go Go.Sx Go.RowKit Go.Proofs
theorem a5S {x : TValue × Int} {l : List TGroup} {B : Nat} (hx : fO x.1 ≤ B) (hl : ∀ g ∈ l, fO g.fValue ≤ B) : ∀ g ∈ dF l x, fO g.fValue ≤ B := fun g hg => by
 rcases insG_mem hg with e | ⟨g', h1, h2⟩
 ·rw [e]; exact hx
 ·rw [← h2]; exact hl g' h1
theorem a5T {B : Nat} (xs : List (TValue × Int)) : ∀ l : List TGroup, (∀ x ∈ xs, fO x.1 ≤ B) → (∀ g ∈ l, fO g.fValue ≤ B) → ∀ g ∈ xs.foldl dF l, fO g.fValue ≤ B := by
 induction xs with
 | nil => intro l _ h; exact h
 | cons x xs ih => intro l hx hl; exact ih (dF l x) (fun y hy => hx y (List.mem_cons_of_mem _ hy)) (a5S (hx x List.mem_cons_self) hl)
theorem zD (n : ByteArray) : ∀ l : List TAttr, fO (getAttr n l) ≤ bL kH l + 1
 | [] => by
  show (⟨#[]⟩ : ByteArray).size ≤ bL kH [] + 1
  have : (⟨#[]⟩ : ByteArray).size = 0 := rfl
  omega
 | a :: l => by
  have := zD n l
  unfold getAttr
  split
  ·simp only [bL, kH]; omega
  ·simp only [bL]; omega
theorem a3J (B : Nat) : ∀ l : List TGroup, (∀ g ∈ l, fO g.fValue ≤ B) → bL iL l ≤ l.length * B + bL (fun g => g.fIDs.length) l
 | [], _ => by simp [bL]
 | g :: l, h => by
  have h1 := h g List.mem_cons_self
  have h2 := a3J B l fun x hx => h x (List.mem_cons_of_mem _ hx)
  simp only [bL, iL, List.length_cons, Nat.add_mul, Nat.one_mul]
  omega
theorem a8u (B : Nat) (s : TStore) (ids : List Int) (name : ByteArray) (hs : bM s ≤ B) : iB ((bP s ids name).foldl dF []) ≤ ids.length * (B + 3) ∧ ((bP s ids name).foldl dF []).length ≤ ids.length := by
 have h1 := a5T (B := B + 1) (bP s ids name) [] (fun x hx => by
  obtain ⟨id, _, rfl⟩ := List.mem_map.1 hx
  have := zD name (eG id s.fFiles).fAttrs
  have h2 := a0C id s.fFiles
  have h3 : bL kH (eG id s.fFiles).fAttrs ≤ dC (eG id s.fFiles) := by unfold dC iM; omega
  have h4 : gV s.fFiles ≤ bM s := by unfold bM; omega
  simp only
  omega) (by simp)
 have h2 := a3J (B + 1) _ h1
 have h3 := a3K (bP s ids name) []
 have h4 : (bP s ids name).length = ids.length := by simp [bP]
 simp only [bL, List.length_nil, Nat.zero_add] at h3
 have h5 : ((bP s ids name).foldl dF []).length * (B + 1) ≤ ids.length * (B + 1) := Nat.mul_le_mul_right _ (by omega)
 have h6 : ids.length * (B + 3) = ids.length * (B + 1) + ids.length + ids.length := by rw [Nat.mul_add, Nat.mul_add]; omega
 unfold iB
 exact ⟨by omega, by omega⟩
def vEq (x v : TValue) : Bool := decide (x.fKind = v.fKind) && (decide (x.fInt = v.fInt) && decide (x.fStr = v.fStr))
def oM (v : TValue) : List TGroup → List Int
 | [] => []
 | g :: gs => if vEq g.fValue v then g.fIDs else oM v gs
theorem a4F (v : TValue) (l : List TGroup) (k : Nat) (h : k < l.length) : oM v (l.drop k) = if vEq l[k].fValue v then l[k].fIDs else oM v (l.drop (k + 1)) := by
 rw [List.drop_eq_getElem_cons h]; rfl
theorem a1X (v : TValue) : ∀ l : List TGroup, (oM v l).length ≤ bL iL l
 | [] => by simp [oM]
 | g :: gs => by
  have := a1X v gs
  unfold oM
  split
  ·simp [bL, iL]; omega
  ·simp [bL]; omega
theorem uP (l : List TGroup) (v : TValue) (h : iB l ≤ 1048576) : FnC Tryd.prog 12 [.o (.d (.sl (l.map dJ))), eT v] (.o (.w 3 1 ((oM v l).map gL))) := by
 unfold iB at h
 have hw := a1X v l
 refine ent Tryd.func12 rfl Tryd.call12 rfl (fun C => ?_); simp only [go_sem, st0, Tryd.ntmps12]
 refine aL ?_
 refine bX (α := Nat) (fun k => [(9, oi k)]) (fun k => []) (fun k => k ≤ l.length ∧ oM v (l.drop k) = oM v l) (fun k => l.length - k) 0 (fun _ => ?_) ?_ ?_ (fun k hk => ?_)
 ·simp only [go_sem]; try simp
 ·simp only [go_sem]; try simp
 ·simp
 ·simp only [go_sem]
  obtain ⟨hk, hg⟩ := hk
  refine aL ?_
  refine cnd rfl (fun h1 => ?_) (fun h1 => ?_)
  ·simp only [decide_eq_true_eq, Int.ofNat_lt] at h1
   have hd := a4F v l k h1
   rw [hg] at hd
   have q0 := @h1; refine nG ?_
   refine cnd rfl (fun hv => ?_) (fun hv => ?_)
   ·have hv' : vEq l[k].fValue v = true := by simpa [vEq, and_assoc] using hv
    rw [if_pos hv'] at hd
    rw [hd] at hw ⊢
    have q0 := @h1; refine a0m (a1L l[k].fIDs (by omega)) ?_
    exact aA ⟨⟨_, rfl, by simp only [go_sem, a9I]⟩, trivial⟩
   ·have hv' : ¬ vEq l[k].fValue v = true := by simpa [vEq, and_assoc] using hv
    rw [if_neg hv'] at hd
    have q0 := @h1; refine nG ?_
    refine bF (k + 1) ?_ ?_ ?_
    ·simp only [go_sem]; try simp
    ·exact ⟨by omega, hd.symm⟩
    ·omega
  ·simp only [decide_eq_false_iff_not] at h1
   have e : k = l.length := by omega
   subst e
   have hn : oM v l = [] := by rw [← hg, List.drop_length]; rfl
   refine aL ?_
   exact aA ⟨⟨_, rfl, by simp only [go_sem, hn]⟩, trivial⟩
theorem lI (l : List TGroup) (v : TValue) (h : iB l ≤ 1048576) : FnC Tryd.prog 12 [.o (.d (.sl (l.map dJ))), eT v] (.o (.d (.sl ((oM v l).map gL)))) := (uP l v h).pu (by simp only [go_sem, and_self])
theorem a4o {l : List Int} (hl : rR l) : FnX Tryd.prog 5 [.o (.d (.sl (l.map qB)))] (fun p : TStore × List Int × ByteArray => storeD 7 p.1 ∧ idsD 8 p.2.1 ∧ w1 p.2.2) (fun p => .t [(true, (xB p.1).cells), (false, [.w 3 1 (p.2.1.map gL)]), (false, [.d (sv p.2.2)])]) := by
 refine b0E Tryd.func5 rfl Tryd.call5 rfl (fun C => ?_); simp only [go_sem, st0, Tryd.ntmps5]
 refine aL ?_
 refine a9t (a4s l hl.1 hl.2) rfl rfl ?_
 intro h hh
 simp only [go_sem]
 refine aL ?_
 first | (refine fQ (tY hl 0 h (Nat.zero_le _) hh) ⟨rfl, rfl⟩ ?_ rfl ?_; (focus first | rfl | (simp only [go_sem]; done))) | (refine hZ (tY hl 0 h (Nat.zero_le _) hh) ⟨rfl, rfl⟩ ?_ rfl ?_; (focus first | rfl | (simp only [go_sem]; done)))
 clear hh; rintro ⟨s, i, h⟩ ⟨hs, hi, hh⟩; simp only at hs hi hh; simp only [go_sem]
 refine aL ?_
 first | (refine fQ (zC hl i h hi hh) ⟨rfl, rfl⟩ ?_ rfl ?_; (focus first | rfl | (simp only [go_sem]; done))) | (refine hZ (zC hl i h hi hh) ⟨rfl, rfl⟩ ?_ rfl ?_; (focus first | rfl | (simp only [go_sem]; done)))
 clear hi hh; rintro ⟨ids, i, h⟩ ⟨hid, hi, hh⟩; simp only at hid hi hh; simp only [go_sem]
 refine aL ?_
 first | (refine fQ (wS hl i h hi hh) ⟨rfl, rfl⟩ ?_ rfl ?_; (focus first | rfl | (simp only [go_sem]; done))) | (refine hZ (wS hl i h hi hh) ⟨rfl, rfl⟩ ?_ rfl ?_; (focus first | rfl | (simp only [go_sem]; done)))
 clear hi hh; rintro ⟨nm, i, h⟩ ⟨hnm, hi, hh⟩; simp only at hnm hi hh; simp only [go_sem]
 refine aL ?_
 exact a5D (s, ids, nm) ⟨⟨_, rfl, by simp only [go_sem]; try simp⟩, by simp [fK]⟩ ⟨hs, hid, hnm⟩
def a6N (l : List UInt8) : Nat := l.foldl (fun a c => a * 10 + (c.toNat - 48)) 0
theorem vF {k : Nat} (h : k < 10) : (UInt8.ofNat (48 + k)).toNat = 48 + k := by
 rw [UInt8.toNat_ofNat']; omega
theorem wO : ∀ n u : Nat, u ≤ n → a6N (Lib.decDigits u) = u ∧ (∀ c ∈ Lib.decDigits u, 48 ≤ c.toNat ∧ c.toNat ≤ 57) ∧ Lib.decDigits u ≠ []
 | n, u, hn => by
  rw [Lib.decDigits]
  split
  ·rename_i h
   refine ⟨by simp only [a6N, List.foldl_cons, List.foldl_nil, vF h]; omega, fun c hc => ?_, by simp⟩
   simp only [List.mem_singleton] at hc
   subst hc
   rw [vF h]; omega
  ·rename_i h
   cases n with
   | zero => omega
   | succ n =>
    obtain ⟨h1, h2, _⟩ := wO n (u / 10) (by omega)
    have hd : u % 10 < 10 := by omega
    refine ⟨?_, fun c hc => ?_, by simp⟩
    ·unfold a6N at h1 ⊢
     rw [List.foldl_append, h1]
     simp only [List.foldl_cons, List.foldl_nil, vF hd]; omega
    ·rcases List.mem_append.1 hc with hc | hc
     ·exact h2 c hc
     ·simp only [List.mem_singleton] at hc
      subst hc
      rw [vF hd]; omega
def gv (v : TValue) : Prop := v = ⟨0, 0, ⟨#[]⟩⟩ ∨ (∃ x : Int, v = ⟨1, x, ⟨#[]⟩⟩ ∧ 0 ≤ x ∧ x ≤ 999) ∨ ∃ s, v = ⟨2, 0, s⟩ ∧ s ∈ words
theorem qA {x : Int} (h : 0 ≤ x) : (tK x).data.toList = Lib.decDigits x.toNat := by
 unfold tK Lib.itoa
 rw [if_neg (by omega)]
theorem vH {s : ByteArray} (h : s ∈ words) : ∃ c t, s.data.toList = c :: t ∧ 97 ≤ c.toNat := by
 simp only [words, List.mem_cons, List.not_mem_nil, or_false] at h
 rcases h with e | e | e | e <;> subst e <;> exact ⟨_, _, rfl, by decide⟩
theorem a0t {x : Int} (h : 0 ≤ x) : ∃ c t, (tK x).data.toList = c :: t ∧ 48 ≤ c.toNat ∧ c.toNat ≤ 57 := by
 obtain ⟨_, h2, h3⟩ := wO x.toNat x.toNat (Nat.le_refl _)
 rw [qA h]
 cases hd : Lib.decDigits x.toNat with
 | nil => exact absurd hd h3
 | cons c t => rw [hd] at h2; exact ⟨c, t, rfl, h2 c List.mem_cons_self⟩
theorem a6O : pI ⟨0, 0, ⟨#[]⟩⟩ = ⟨#[45]⟩ := by decide +kernel
theorem a4p {x : Int} (h : 0 ≤ x ∧ x ≤ 999) : pI ⟨1, x, ⟨#[]⟩⟩ = tK x := by unfold pI; rw [a5B h]; rfl
theorem a4q {s : ByteArray} (h : s ∈ words) : pI ⟨2, 0, s⟩ = s := by unfold pI; rw [(rO h).1]; rfl
theorem a8a {a b : TValue} (ha : gv a) (hb : gv b) (h : pI a = pI b) : a = b := by
 have e0 : (⟨#[45]⟩ : ByteArray).data.toList = [45] := rfl
 rcases ha with rfl | ⟨x, rfl, hx⟩ | ⟨s, rfl, hs⟩ <;> rcases hb with rfl | ⟨y, rfl, hy⟩ | ⟨t, rfl, ht⟩
 ·rfl
 ·rw [a6O, a4p hy] at h
  obtain ⟨c, t, e, h1, h2⟩ := a0t hy.1
  rw [← h, e0] at e
  injection e with e1 _
  subst e1
  exact absurd h1 (by decide)
 ·rw [a6O, a4q ht] at h
  obtain ⟨c, t, e, h1⟩ := vH ht
  rw [← h, e0] at e
  injection e with e1 _
  subst e1
  exact absurd h1 (by decide)
 ·rw [a6O, a4p hx] at h
  obtain ⟨c, t, e, h1, h2⟩ := a0t hx.1
  rw [h, e0] at e
  injection e with e1 _
  subst e1
  exact absurd h1 (by decide)
 ·rw [a4p hx, a4p hy] at h
  have h2 := congrArg (fun z : ByteArray => a6N z.data.toList) h
  simp only [qA hx.1, qA hy.1, (wO _ _ (Nat.le_refl _)).1] at h2
  rw [show x = y by omega]
 ·rw [a4p hx, a4q ht] at h
  obtain ⟨c, r, e, h1, h2⟩ := a0t hx.1
  obtain ⟨c', r', e', h1'⟩ := vH ht
  rw [h, e'] at e
  injection e with e1 _
  subst e1
  omega
 ·rw [a6O, a4q hs] at h
  obtain ⟨c, t, e, h1⟩ := vH hs
  rw [h, e0] at e
  injection e with e1 _
  subst e1
  exact absurd h1 (by decide)
 ·rw [a4p hy, a4q hs] at h
  obtain ⟨c, r, e, h1, h2⟩ := a0t hy.1
  obtain ⟨c', r', e', h1'⟩ := vH hs
  rw [← h, e'] at e
  injection e with e1 _
  subst e1
  omega
 ·rw [a4q hs, a4q ht] at h
  rw [h]
theorem getAttr_mem (n : ByteArray) : ∀ l : List TAttr, getAttr n l = ⟨0, 0, ⟨#[]⟩⟩ ∨ ∃ a ∈ l, getAttr n l = a.fValue
 | [] => Or.inl rfl
 | a :: l => by
  unfold getAttr
  split
  ·exact Or.inr ⟨a, List.mem_cons_self, rfl⟩
  ·rcases getAttr_mem n l with h | ⟨b, h1, h2⟩
   ·exact Or.inl h
   ·exact Or.inr ⟨b, List.mem_cons_of_mem _ h1, h2⟩
theorem a8b {a b n t : Option TValue} (ha : sU a) (hb : sU b) (hn : sV n) (ht : sV t) : ∀ x ∈ pcs a b n t, gv x.fValue := by
 have k1 : ∀ {o : Option TValue} (s : ByteArray), sU o → ∀ x ∈ pc s o, gv x.fValue := fun {o} s h x hx => by
  cases o with
  | none => simp [pc] at hx
  | some v =>
   simp only [pc, List.mem_singleton] at hx
   subst hx
   obtain ⟨y, e, h1⟩ := h v rfl
   exact Or.inr (Or.inl ⟨y, e, h1⟩)
 have k2 : ∀ {o : Option TValue} (s : ByteArray), sV o → ∀ x ∈ pc s o, gv x.fValue := fun {o} s h x hx => by
  cases o with
  | none => simp [pc] at hx
  | some v =>
   simp only [pc, List.mem_singleton] at hx
   subst hx
   obtain ⟨y, e, h1⟩ := h v rfl
   exact Or.inr (Or.inr ⟨y, e, h1⟩)
 intro x hx
 simp only [pcs, List.mem_append] at hx
 rcases hx with hx | hx | hx | hx
 ·exact k1 _ ha x hx
 ·exact k1 _ hb x hx
 ·exact k2 _ hn x hx
 ·exact k2 _ ht x hx
theorem findF_mem (id : Int) (l : List TFile) : eG id l = zF ∨ eG id l ∈ l := by
 rcases ixF_cases id l with h | ⟨p, h, hp, _⟩
 ·exact Or.inl (sD h)
 ·rw [nV h hp]; exact Or.inr (List.getElem_mem _)
theorem a8c {k : Nat} {s : TStore} (hs : storeD k s) (id : Int) (n : ByteArray) : gv (getAttr n (eG id s.fFiles).fAttrs) := by
 rcases findF_mem id s.fFiles with h | h
 ·rw [h]; exact Or.inl rfl
 ·obtain ⟨i, hf⟩ := hs.fl _ h
  obtain ⟨a, b, n', t, e, h1, h2, h3, h4⟩ := hf.at_
  rcases getAttr_mem n (eG id s.fFiles).fAttrs with h5 | ⟨x, h5, h6⟩
  ·rw [h5]; exact Or.inl rfl
  ·rw [h6]
   rw [e] at h5
   exact a8b h1 h2 h3 h4 x h5
theorem a6P (xs : List (TValue × Int)) : ∀ l : List TGroup, (∀ x ∈ xs, gv x.1) → (∀ g ∈ l, gv g.fValue) → ∀ g ∈ xs.foldl dF l, gv g.fValue := by
 induction xs with
 | nil => intro l _ h; exact h
 | cons x xs ih =>
  intro l hx hl
  refine ih (dF l x) (fun y hy => hx y (List.mem_cons_of_mem _ hy)) fun g hg => ?_
  rcases insG_mem hg with e | ⟨g', h1, h2⟩
  ·rw [e]; exact hx x List.mem_cons_self
  ·rw [← h2]; exact hl g' h1
theorem a8d {k : Nat} {s : TStore} (hs : storeD k s) (ids : List Int) (n : ByteArray) : ∀ g ∈ (bP s ids n).foldl dF [], gv g.fValue := a6P _ [] (fun x hx => by
 obtain ⟨id, _, rfl⟩ := List.mem_map.1 hx
 exact a8c hs id n) (by simp)
theorem a1p (xs : List (TValue × Int)) : ∀ l : List TGroup, l.Pairwise ltG → (xs.foldl dF l).Pairwise ltG := by
 induction xs with
 | nil => intro l h; exact h
 | cons x xs ih => intro l h; exact ih _ (uF x h)
theorem a0u (a b : TValue) : vEq a b = true ↔ a = b := by
 unfold vEq
 simp only [Bool.and_eq_true, decide_eq_true_eq]
 exact ⟨fun ⟨h1, h2, h3⟩ => vO h1 h2 h3, fun h => by rw [h]; exact ⟨rfl, rfl, rfl⟩⟩
theorem a6Q {l : List TGroup} (h : eU l) (i : Nat) (hi : i < l.length) : oM l[i].fValue l = l[i].fIDs := by
 induction l generalizing i with
 | nil => simp at hi
 | cons g l ih =>
  unfold eU at h
  rw [List.pairwise_cons] at h
  cases i with
  | zero =>
   rw [show (g :: l)[0] = g from rfl]
   unfold oM
   rw [if_pos ((a0u _ _).2 rfl)]
  | succ i =>
   have hi' : i < l.length := by simpa using hi
   have h1 : g.fValue ≠ l[i].fValue := h.1 _ (List.getElem_mem _)
   have e : (g :: l)[i + 1] = l[i] := rfl
   rw [e]
   unfold oM
   rw [if_neg (fun k => h1 ((a0u _ _).1 k))]
   exact ih h.2 i hi'
theorem a3t {v : TValue} : ∀ {l : List TGroup}, (∀ g ∈ l, g.fValue ≠ v) → oM v l = []
 | [], _ => rfl
 | g :: l, h => by
  unfold oM
  rw [if_neg (fun k => h g List.mem_cons_self ((a0u _ _).1 k))]
  exact a3t fun x hx => h x (List.mem_cons_of_mem _ hx)
theorem a9l {v : TValue} (h : gv v) : v ≠ ⟨2, 0, ⟨#[122, 122]⟩⟩ := fun e => by
 subst e
 rcases h with h | ⟨x, h, _⟩ | ⟨s, h, hs⟩
 ·cases h
 ·cases h
 ·cases h; exact (rO hs).2.2 rfl
theorem a5y {v : TValue} (h : gv v) : v.fStr.size ≤ 4 ∧ inR .i64 v.fInt := by
 have e : (⟨#[]⟩ : ByteArray).size = 0 := rfl
 rcases h with rfl | ⟨x, rfl, hx⟩ | ⟨s, rfl, hs⟩
 ·exact ⟨by simp only [e]; omega, by simp only [inR]; omega⟩
 ·exact ⟨by simp only [e]; omega, by simp only [inR]; omega⟩
 ·exact ⟨(rO hs).2.1, by simp only [inR]; omega⟩
theorem sF (l : List Int) (hl : l.length ≤ 67108864) : FnC Tryd.prog 11 [.o (.d (slI l)), .o (.d (slI l))] (ob true) := by
 refine ent Tryd.func11 rfl Tryd.call11 rfl (fun C => ?_); simp only [go_sem, st0, Tryd.ntmps11]
 have h0 : decide ((l.length : Int) = (l.length : Int)) = true := by simp
 have q0 := @h0; have q1 := @a7L; refine iK ?_
 refine bX (α := Nat) (fun k => [(5, oi k)]) (fun _ => []) (fun k => k ≤ l.length) (fun k => l.length - k) 0 (fun _ => ?_) ?_ ?_ (fun k hk => ?_)
 ·simp only [go_sem]
 ·simp only [go_sem]; simp
 ·simp
 ·simp only [go_sem]
  refine aL ?_
  refine cnd rfl (fun h => ?_) (fun h => ?_)
  ·simp only [decide_eq_true_eq, Int.ofNat_lt] at h
   have q0 := @h; refine nG ?_
   refine bF (k + 1) ?_ ?_ ?_
   ·simp only [go_sem]; simp
   ·exact h
   ·omega
  ·refine aL ?_
   exact aA ⟨⟨_, rfl, by simp only [go_sem]⟩, trivial⟩
theorem a7g (l : List Int) (hl : l.length ≤ 9223372036854775807) : FnC Tryd.prog 4 [.o (.d (.sl (l.map qB)))] (ob (decide ((1048576 : Int) < (l.length : Int)))) := by
 refine ent Tryd.func4 rfl Tryd.call4 rfl (fun C => ?_); simp only [go_sem, st0, Tryd.ntmps4]
 refine aL ?_
 exact aA ⟨⟨_, rfl, by simp only [go_sem]⟩, trivial⟩
theorem a0E (g : TGroup) (hl : g.fIDs.length ≤ 67108864) : FnC Tryd.prog 25 [a5s g, a5s g] (ob true) := by
 refine ent Tryd.func25 rfl Tryd.call25 rfl (fun C => ?_); simp only [go_sem, st0, Tryd.ntmps25]
 have q0 := @decide_true; refine a0m (sF g.fIDs hl) ?_
 exact aA ⟨⟨_, rfl, by simp only [go_sem]⟩, trivial⟩
theorem xP (l : List TGroup) (hl : iB l ≤ 67108864) : FnC Tryd.prog 7 [.o (.d (.sl (l.map dJ))), .o (.d (.sl (l.map dJ)))] (ob true) := by
 have hn : l.length ≤ 67108864 := by unfold iB at hl; omega
 refine ent Tryd.func7 rfl Tryd.call7 rfl (fun C => ?_); simp only [go_sem, st0, Tryd.ntmps7]
 have h0 : decide ((l.length : Int) = (l.length : Int)) = true := by simp
 have q0 := @h0; have q1 := @a7L; refine iK ?_
 refine bX (α := Nat) (fun k => [(5, oi k)]) (fun _ => []) (fun k => k ≤ l.length) (fun k => l.length - k) 0 (fun _ => ?_) ?_ ?_ (fun k hk => ?_)
 ·simp only [go_sem]
 ·simp only [go_sem]; simp
 ·simp
 ·simp only [go_sem]
  refine aL ?_
  refine cnd rfl (fun h => ?_) (fun h => ?_)
  ·simp only [decide_eq_true_eq, Int.ofNat_lt] at h
   have hm := eD iL l h
   have hw1 : l[k].fIDs.length ≤ iL l[k] := by unfold iL; omega
   have hr := a0E l[k] (by unfold iB at hl; omega)
   have q0 := @h; refine a0m hr ?_
   refine bF (k + 1) ?_ ?_ ?_
   ·simp only [go_sem]; simp
   ·exact h
   ·omega
  ·refine aL ?_
   exact aA ⟨⟨_, rfl, by simp only [go_sem]⟩, trivial⟩
end Go.Proofs.YtakopfjdmmnjcaaDoor
end
section
set_option maxRecDepth 100000
set_option maxHeartbeats 4000000
namespace Go.Proofs.YtakopfjdmmnjcaaDoor
open Go Go.Sx Go.RowKit Go.Proofs
theorem a0I (s : TStore) (id : Int) (h : bM s ≤ 4300000) : FnC Tryd.prog 18 [fA s, oi id] (.t [(true, (mI (eG id s.fFiles)).cells), (false, [.d (bv (decide (0 ≤ ixF id s.fFiles)))])]) := (a1M s id h).pu (by simp only [go_sem, and_self])
def nwG (v : TValue) : aP := (⟨v, []⟩, .slice none 0 0)
namespace Opq
theorem a5W (v : TValue) (p : aP) : FnC Tryd.prog 21 [gO p, .o (.q [iv v.fKind, iv v.fInt, sv v.fStr])] (ob (jP v p)) := by
 refine ent Tryd.func21 rfl Tryd.call21 rfl (fun C => ?_); simp only [go_sem, st0, Tryd.ntmps21]
 refine aL ?_
 exact aA ⟨⟨_, rfl, by simp only [go_sem, jP, yX]⟩, trivial⟩
theorem xR (f : Nat) (c : List D) (p : aP → Bool) (l : List aP) (hf : ∀ s ∈ l, FnC Tryd.prog f [gO s, .o (.q c)] (ob (p s))) (hl : l.length ≤ 8388608) : FnC Tryd.prog 20 [.o (.d (.sl (l.map jO))), .o (.f f [c])] (oi (idxP p l 0)) := by
 refine ent Tryd.func20 rfl Tryd.call20 rfl (fun C => ?_); simp only [go_sem, st0, Tryd.ntmps20]
 refine aL ?_
 refine bX (α := Nat) (fun k => [(8, oi k)]) (fun _ => []) (fun k => k ≤ l.length ∧ idxP p l 0 = idxP p (l.drop k) k) (fun k => l.length - k) 0 (fun _ => ?_) ?_ ?_ (fun k hk => ?_)
 ·simp only [go_sem]
 ·simp only [go_sem]; simp
 ·simp
 ·obtain ⟨hk, hq⟩ := hk
  simp only [go_sem]
  refine aL ?_
  refine cnd rfl (fun h => ?_) (fun h => ?_)
  ·simp only [decide_eq_true_eq, Int.ofNat_lt] at h
   have hd := List.drop_eq_getElem_cons h
   rw [hd, idxP] at hq
   have q0 := @h; refine a0m (hf l[k] (List.getElem_mem h)) ?_
   refine cnd rfl (fun h2 => ?_) (fun h2 => ?_)
   ·refine aL ?_
    exact aA ⟨⟨_, rfl, by simp only [go_sem, hq, h2]⟩, trivial⟩
   ·refine aL ?_
    refine bF (k + 1) ?_ ?_ ?_
    ·simp only [go_sem]; simp
    ·rw [hq, h2]; exact ⟨h, by simp⟩
    ·omega
  ·simp only [decide_eq_false_iff_not] at h
   have e : k = l.length := by omega
   subst e
   simp only [List.drop_length, idxP] at hq
   refine aL ?_
   exact aA ⟨⟨_, rfl, by simp only [go_sem, hq]⟩, trivial⟩
def SortsG (n : Nat) : Prop := ∀ its : List aP, eU (its.map (·.1)) → its.length ≤ n → ∃ its' : List aP, its'.Perm its ∧ (its'.map (·.1)).Pairwise ltG ∧
    FnI Tryd.prog 22 39 4 (its.map jO) [.o (.f 23 [])] true (its'.map jO)
theorem implGroup_ok (n : Nat) (hSort : SortsG n) (s : TStore) (ids : List Int) (name : ByteArray) (h : bM s ≤ 1048576) (hi : ids.length ≤ 1048576) (hn : ids.length ≤ n) :
    FnC Tryd.prog 6 [fA s, .o (.d (.sl (ids.map gL))), os name] (.o (.w 39 4 (((bP s ids name).foldl dF []).map dJ))) := by
 refine ent Tryd.func6 rfl Tryd.call6 rfl (fun C => ?_); simp only [go_sem, st0, Tryd.ntmps6]
 refine aL ?_
 refine WP.sees (Sees.pool0 3 1) ?_
 simp only [go_sem]
 refine bX (α := Nat × List aP) (fun x => [(7, .o (.s 1)), (17, oi x.1), (14, .o .u)]) (fun x => [(1, .row 39 4 (x.2.map jO) true), (2, .pool 3 1 (x.2.map nM))]) (fun x => x.1 ≤ ids.length ∧ x.2.map (·.1) = ((bP s ids name).take x.1).foldl gY []) (fun x => ids.length - x.1) (0, []) (fun _ => ?_) ?_ ?_ (fun x hx => ?_)
 ·simp only [go_sem]
 ·simp only [go_sem]; simp
 ·simp
 ·obtain ⟨k, its⟩ := x
  obtain ⟨hk, hq⟩ := hx
  simp only at hk hq
  simp only [go_sem]
  refine aL ?_
  refine cnd rfl (fun h1 => ?_) (fun h1 => ?_)
  ·simp only [decide_eq_true_eq, Int.ofNat_lt] at h1
   have hfw : dC (eG ids[k] s.fFiles) ≤ 4300000 := by have := a0C ids[k] s.fFiles; unfold bM at h; omega
   have hG := wY (eG ids[k] s.fFiles) name hfw
   have hvk : (bP s ids name).take (k + 1) = (bP s ids name).take k ++ [(getAttr name (eG ids[k] s.fFiles).fAttrs, ids[k])] := by
    rw [List.take_succ_eq_append_getElem (by simpa [bP] using h1)]
    simp [bP]
   generalize getAttr name (eG ids[k] s.fFiles).fAttrs = v at hG hvk
   have hsum := a1T ((bP s ids name).take k) []
   rw [← hq] at hsum
   have hvl : ((bP s ids name).take k).length = k := by simp [bP]; omega
   rw [hvl] at hsum
   simp only [bL, List.length_nil, List.length_map, Nat.zero_add] at hsum
   have hil : its.length ≤ k := hsum.2
   have hI := xR _ _ (jP v) its (fun p _ => a5W v p) (by omega)
   have hsp := idxP_spec (jP v) its 0
   generalize idxP (jP v) its 0 = q at hI hsp
   have qH := @h1; repeat' (with_reducible first | refine nY ?_ | (refine mX ?_; try simp only [go_sem, qH]) | refine kD ?_ | refine rD ?_ | refine cP (a0I s ids[k] (by omega)) ?_ | refine cP hG ?_ | refine vL hI ?_ | refine aO ?_ | fail)
   refine cnd rfl (fun h2 => ?_) (fun h2 => ?_)
   ·simp only [decide_eq_true_eq] at h2
    rcases hsp with ⟨rfl, hall⟩ | ⟨k0, rfl, _⟩
    case inr => omega
    refine WP.sees (Sees.poolN 2 rfl) ?_
    simp only [go_sem]
    have hrow : its.map jO ++ [[iv v.fKind, iv v.fInt, sv v.fStr, .v (.slice none 0 0)]] = (its ++ [nwG v]).map jO := by simp [jO, nwG]
    have hlen : its.length < (its ++ [nwG v]).length := by simp
    have q0 := @hrow; have q1 := @hlen; refine iK ?_
    refine ⟨by simp, a5m fun z2 => ?_⟩
    have q0 := @hrow; have q1 := @hlen; refine iK ?_
    refine a7M 2 its.length 6 [] [[.int .i64 ids[k]]] rfl rfl ?_ (List.mem_singleton.2 rfl) (by simp) ?_ (fun z' => ?_)
    ·simp [nwG]
    ·simp only [go_sem]
    ·simp only [go_sem]
     have q0 := @hrow; have q1 := @hlen; refine iK ?_
     refine bF (k + 1, (its ++ [nwG v]).set its.length (⟨v, [ids[k]]⟩, z')) ?_ ?_ ?_
     ·simp only [go_sem]; simp [List.map_set, jO, nM, nwG]
     ·refine ⟨h1, ?_⟩
      simp only
      rw [hvk, List.foldl_append, ← hq]
      simp only [List.foldl_cons, List.foldl_nil]
      rw [a1R v ids[k] hall]
      simp
     ·simp only; omega
   ·simp only [decide_eq_false_iff_not] at h2
    rcases hsp with ⟨rfl, hall⟩ | ⟨k0, rfl, hk0, ht, hlt⟩
    case inl => omega
    simp only [Nat.zero_add]
    have q0 := @hk0; refine nG ?_
    refine ⟨by simp, a5m fun z2 => ?_⟩
    have q0 := @hk0; refine nG ?_
    refine a7M 2 k0 5 (its[k0].1.fIDs.map fun i => [.int .i64 i]) [[.int .i64 ids[k]]] rfl rfl ?_ (List.mem_singleton.2 rfl) (by simp) ?_ (fun z' => ?_)
    ·rw [List.getElem?_map, List.getElem?_eq_getElem hk0]; rfl
    ·have hi2 := eD (fun g : TGroup => g.fIDs.length) (its.map (·.1)) (k := k0) (by simpa using hk0)
     simp only [List.getElem_map] at hi2
     simp only [go_sem, List.length_map, List.length_cons, List.length_nil]
     omega
    ·simp only [go_sem]
     have q0 := @hk0; refine nG ?_
     refine bF (k + 1, its.set k0 (⟨its[k0].1.fValue, its[k0].1.fIDs ++ [ids[k]]⟩, z')) ?_ ?_ ?_
     ·simp only [go_sem]; simp [List.map_set, jO, nM]
     ·refine ⟨h1, ?_⟩
      simp only
      rw [hvk, List.foldl_append, ← hq]
      simp only [List.foldl_cons, List.foldl_nil]
      exact (a1Q v ids[k] z' hk0 ht hlt).symm
     ·simp only; omega
  ·simp only [decide_eq_false_iff_not] at h1
   have e : k = ids.length := by omega
   subst e
   have hvl : (bP s ids name).length = ids.length := by simp [bP]
   rw [← hvl, List.take_length] at hq
   have hsum := a1T (bP s ids name) []
   rw [← hq] at hsum
   simp only [bL, List.length_nil, List.length_map, Nat.zero_add] at hsum
   obtain ⟨hap, hsrt, hmem⟩ := zH (bP s ids name) [] [] List.Pairwise.nil List.Pairwise.nil fun g => Iff.rfl
   obtain ⟨its', hp, hs, hS⟩ := hSort its (by rw [hq]; exact hap) (by omega)
   have hfin : its'.map (·.1) = (bP s ids name).foldl dF [] := xO _ (fun g => by rw [← hq]; exact (hp.map (·.1)).mem_iff) hs
   rw [← hfin]
   have qH := trivial; repeat' (with_reducible first | refine nY ?_ | (refine mX ?_; try simp only [go_sem]) | refine kD ?_ | refine rD ?_ | refine vI hS ?_ | refine vJ hS ?_ | refine aO ?_ | fail)
   refine xU (Sees.unpool 1 2 (its'.map itO) (by rw [List.map_map]; rfl) rfl (by rw [List.map_map]; exact (hp.map nM).symm)) ?_
   simp only [go_sem]
   have hclr : (its'.map itO).map kM = (its'.map (·.1)).map dJ := by
    rw [List.map_map, List.map_map]
    exact List.map_congr_left fun p _ => a3L p
   exact aA ⟨⟨_, rfl, by simp only [go_sem, hclr]⟩, trivial⟩
end Opq
end Go.Proofs.YtakopfjdmmnjcaaDoor
end
section
set_option maxRecDepth 100000
set_option maxHeartbeats 4000000
namespace Go.Proofs.YtakopfjdmmnjcaaDoor
open Go Go.Sx Go.RowKit Go.Proofs Go.Sort
theorem a5V (d : Array aP) (a : Nat) : Sort.insertionSort ltO d a a = d := by
 unfold Sort.insertionSort
 exact insOuter_stop _ _ _ _ _ (by omega)
theorem xH : FnC Tryd.prog 44 [.o (.d (.sl [])), oi 0, .o (.f 23 [])] (.t []) := by
 have hI : FnC Tryd.prog 61 [.o (.d (.sl [])), oi 0, oi 0, .o (.f 23 [])] (.t []) := uE
 refine ent Tryd.func44 rfl Tryd.call44 rfl (fun C => ?_); simp only [go_sem, st0, Tryd.ntmps44]
 refine aL ?_
 refine bX (α := Unit) (fun _ => [(7, oi 0), (8, oi 20)]) (fun _ => []) (fun _ => True) (fun _ => 0) () (fun _ => ?_) ?_ trivial (fun _ _ => ?_)
 ·simp only [go_sem]
 ·simp only [go_sem]; simp
 ·simp only [go_sem]
  refine wM hI ?_
  refine bX (α := Unit) (fun _ => [(6, oi 20)]) (fun _ => []) (fun _ => True) (fun _ => 0) () (fun _ => ?_) ?_ trivial (fun _ _ => ?_)
  ·simp only [go_sem]
  ·simp only [go_sem]; simp
  ·simp only [go_sem]
   refine aL ?_
   exact mR ⟨⟨_, rfl, by simp only [go_sem]⟩, by simp [fK]⟩
theorem a0F (d : Array aP) (hs : d.size ≤ 20) :
    FnI Tryd.prog 44 39 4 (dN d) [oi d.size, .o (.f 23 [])] true (dN (Sort.insertionSort ltO d 0 d.size)) := by
 have hz : (Sort.insertionSort ltO d 0 d.size).size = d.size := xE 0 d.size _ _ d rfl
 refine a8v Tryd.func44 rfl Tryd.call44 rfl (gX d) (gX _) (by rw [gB, gB]; exact hz) (fun h0 => ?_) (fun hne C y => ?_)
 ·rw [tH h0]; exact xH
 ·simp only [go_sem, Tryd.ntmps44]
  by_cases h20 : d.size = 20
  ·have hI0 : FnI Tryd.prog 61 39 4 (dN d) [oi 0, oi 20, .o (.f 23 [])] true (dN (Sort.insertionSort ltO d 0 d.size)) := by
    rw [h20]; exact qE d 0 20 (by omega) (by omega) (by omega)
   have hI : FnI Tryd.prog 61 39 4 (dN (Sort.insertionSort ltO d 0 d.size)) [oi 20, oi 20, .o (.f 23 [])] true (dN (Sort.insertionSort ltO d 0 d.size)) := by
    have := qE (Sort.insertionSort ltO d 0 d.size) 20 20 (by omega) (by omega) (by omega)
    rw [a5V] at this
    exact this
   have hz20 : (d.size : Int) = 20 := by omega
   generalize Sort.insertionSort ltO d 0 d.size = d1 at hI hI0
   rw [hz20]
   refine aL ?_
   refine bX (α := Bool) (fun x => [(7, oi (bif x then 20 else 0)), (8, oi (bif x then 40 else 20))]) (fun x => [(0, .row 39 4 (dN (bif x then d1 else d)) true)]) (fun _ => True) (fun x => bif x then 0 else 1) false (fun _ => ?_) ?_ trivial (fun x _ => ?_)
   ·simp only [go_sem]
   ·simp only [go_sem]; simp
   ·simp only [go_sem]
    cases x with
    | false =>
     simp only [cond_false]
     have qH := trivial; repeat' (with_reducible first | refine nY ?_ | (refine mX ?_; try simp only [go_sem]) | refine kD ?_ | refine rD ?_ | refine vI hI0 ?_ | refine vJ hI0 ?_ | refine aO ?_ | fail)
     refine bF true ?_ trivial (by simp)
     simp only [go_sem]; simp
    | true =>
     simp only [cond_true]
     have qH := trivial; repeat' (with_reducible first | refine nY ?_ | (refine mX ?_; try simp only [go_sem]) | refine kD ?_ | refine rD ?_ | refine vI hI ?_ | refine vJ hI ?_ | refine aO ?_ | fail)
     refine bX (α := Unit) (fun _ => [(6, oi 20)]) (fun _ => []) (fun _ => True) (fun _ => 0) () (fun _ => ?_) ?_ trivial (fun _ _ => ?_)
     ·simp only [go_sem]
     ·simp only [go_sem]; simp
     ·simp only [go_sem]
      refine aL ?_
      exact kG rfl rfl
  ·have hl : ¬ ((20 : Int) ≤ (d.size : Int)) := by omega
   have hl2 : ¬ ((20 : Int) < (d.size : Int)) := by omega
   have hI : FnI Tryd.prog 61 39 4 (dN d) [oi 0, oi d.size, .o (.f 23 [])] true (dN (Sort.insertionSort ltO d 0 d.size)) := qE d 0 d.size (by omega) (by omega) (by omega)
   generalize Sort.insertionSort ltO d 0 d.size = d1 at hI
   refine aL ?_
   refine bX (α := Unit) (fun _ => [(7, oi 0), (8, oi 20)]) (fun _ => []) (fun _ => True) (fun _ => 0) () (fun _ => ?_) ?_ trivial (fun _ _ => ?_)
   ·simp only [go_sem]
   ·simp only [go_sem]; simp
   ·simp only [go_sem]
    have qH := aI @hl @decide_false; repeat' (with_reducible first | refine nY ?_ | (refine mX ?_; try simp only [go_sem, qH]) | refine kD ?_ | refine rD ?_ | refine vI hI ?_ | refine vJ hI ?_ | refine aO ?_ | fail)
    refine bX (α := Unit) (fun _ => [(6, oi 20)]) (fun _ => []) (fun _ => True) (fun _ => 0) () (fun _ => ?_) ?_ trivial (fun _ _ => ?_)
    ·simp only [go_sem]
    ·simp only [go_sem]; simp
    ·simp only [go_sem]
     have q0 := @hl2; have q1 := @decide_false; refine iK ?_
     exact kG rfl rfl
theorem a7h : SWO ltO := by
 refine ⟨fun x => ?_, fun x y z h1 h2 => ?_, fun x y z h1 h2 => ?_⟩
 ·unfold ltO
  rw [decide_eq_false_iff_not, kJ]; exact jQ _
 ·unfold ltO at h1 h2 ⊢
  rw [decide_eq_true_eq, kJ] at h1 h2 ⊢
  exact lH _ _ _ h1 h2
 ·unfold ltO at h1 h2 ⊢
  rw [decide_eq_false_iff_not, kJ] at h1 h2 ⊢
  intro h3
  by_cases e : x.1.fValue = y.1.fValue
  ·rw [e] at h3; exact h2 h3
  ·exact h2 (lH _ _ _ (vP h1 e) h3)
theorem a0G {d : Array aP} (h : SortedIn ltO 0 d.size d) (ha : eU (d.toList.map (·.1))) : (d.toList.map (·.1)).Pairwise ltG := by
 rw [List.pairwise_iff_getElem] at *
 unfold eU at ha
 rw [List.pairwise_iff_getElem] at ha
 intro i j hi hj hij
 have hi' : i < d.toList.length := by simpa using hi
 have hj' : j < d.toList.length := by simpa using hj
 have h1 := h i j (by omega) hij (by simpa using hj')
 have h2 := ha i j hi hj hij
 rw [← iI d i hi', ← iI d j hj'] at h1
 simp only [List.getElem_map] at h2 ⊢
 unfold ltO at h1
 rw [decide_eq_false_iff_not, kJ] at h1
 exact vP h1 (fun e => h2 e.symm)
theorem a2Y {l m : List TGroup} (h : l.Perm m) (ha : eU l) : eU m := by
 unfold eU at *
 exact (h.pairwise_iff (fun {a b} hab => fun e => hab e.symm)).1 ha
theorem a0H {d d' : Array aP} (h : PermIn 0 d.size d d') : d'.toList.Perm d.toList := by
 have := h.2.2
 have h1 := h.1
 rw [show d'.extract 0 d.size = d' by rw [← h1]; simp, show d.extract 0 d.size = d by simp] at this
 exact this
theorem xQ (d d1 : Array aP) (hz : d1.size = d.size) (hS : FnI Tryd.prog 44 39 4 (dN d) [oi d.size, .o (.f 23 [])] true (dN d1))
    (hN : d.size = 0 → FnC Tryd.prog 44 [.o (.d (.sl [])), oi 0, .o (.f 23 [])] (.t [])) :
    FnI Tryd.prog 22 39 4 (dN d) [.o (.f 23 [])] true (dN d1) := by
 have hlen := gB d
 refine a8v Tryd.func22 rfl Tryd.call22 rfl (gX d) (gX _) (by rw [gB, gB]; exact hz) (fun h0 => ?_) (fun hne C y => ?_)
 ·have hN : FnC Tryd.prog 44 [.o (.d (.sl [])), oi ((0 : Nat) : Int), .o (.f 23 [])] (.t []) := hN (tH h0)
  refine ent Tryd.func22 rfl Tryd.call22 rfl (fun C => ?_); simp only [go_sem, st0, Tryd.ntmps22]
  refine wM hN ?_
  exact mR ⟨⟨_, rfl, by simp only [go_sem]⟩, by simp [fK]⟩
 ·simp only [go_sem, Tryd.ntmps22]
  have qH := @hlen; repeat' (with_reducible first | refine nY ?_ | (refine mX ?_; try simp only [go_sem, qH]) | refine kD ?_ | refine rD ?_ | refine vI hS ?_ | refine vJ hS ?_ | refine aO ?_ | fail)
  exact kG rfl rfl
theorem a1Y (its : List aP) (hap : eU (its.map (·.1))) (hl : its.length ≤ 20) : ∃ its' : List aP, its'.Perm its ∧ (its'.map (·.1)).Pairwise ltG ∧
    FnI Tryd.prog 22 39 4 (its.map jO) [.o (.f 23 [])] true (its'.map jO) := by
 obtain ⟨h1, h2⟩ := insertionSort_holds a7h its.toArray 0 its.toArray.size (Nat.zero_le _) (Nat.le_refl _)
 have hp := a0H h1
 refine ⟨(Sort.insertionSort ltO its.toArray 0 its.toArray.size).toList, hp, ?_, ?_⟩
 ·refine a0G (by rw [h1.1]; exact h2) (a2Y (hp.map (·.1)).symm (by simpa using hap))
 ·exact xQ its.toArray _ h1.1 (a0F its.toArray (by simpa using hl)) (fun _ => xH)
theorem a1Z : Opq.SortsG 20 := fun its hap hl => a1Y its hap hl
end Go.Proofs.YtakopfjdmmnjcaaDoor
end
section
set_option maxRecDepth 100000
set_option maxHeartbeats 4000000
namespace Go.Proofs.YtakopfjdmmnjcaaDoor
open Go Go.Sx Go.RowKit Go.Proofs
theorem a1o (l : List Int) (hf : wfU l) : FnC Tryd.prog 3 [.o (.d (.sl (l.map qB)))] (ob true) := by
 refine ent Tryd.func3 rfl Tryd.call3 rfl (fun C => ?_); simp only [go_sem, st0, Tryd.ntmps3]
 have hbig := a7g l hf.1
 by_cases g : (1048576 : Int) < (l.length : Int)
 ·have g' : decide ((1048576 : Int) < (l.length : Int)) = true := by simp [g]
  have q0 := @g'; refine a0m hbig ?_
  exact aA ⟨⟨_, rfl, by simp only [go_sem]⟩, trivial⟩
 have g' : decide ((1048576 : Int) < (l.length : Int)) = false := by simp [g]
 have hl : rR l := ⟨by omega, hf.2⟩
 have q0 := @g'; refine a0m hbig ?_
 refine a9u (a4o hl) rfl rfl ?_
 rintro ⟨s, ids, nm⟩ ⟨hs, hi, hn⟩
 simp only at hs hi hn
 simp only [go_sem]
 have hsw := a1t hs
 have hil := hi.len
 have hb := a8u 600 s ids nm hsw
 have hb2 : ids.length * (600 + 3) ≤ 7 * (600 + 3) := Nat.mul_le_mul_right _ (by omega)
 have hgv := a8d hs ids nm
 have hap := mK (a1p (bP s ids nm) [] List.Pairwise.nil)
 have c1 : FnC Tryd.prog 6 [fA s, .o (.d (.sl (ids.map gL))), os nm] (.o (.d (.sl (((bP s ids nm).foldl dF []).map dJ)))) := (Opq.implGroup_ok 20 a1Z s ids nm (by omega) (by omega) (by omega)).pu (by simp only [go_sem, and_self])
 have c2 : FnC Tryd.prog 8 [fA s, .o (.d (.sl (ids.map gL))), os nm] (.o (.d (.sl (((bP s ids nm).foldl dF []).map dJ)))) := (Opq.specGroup_ok s ids nm (by omega) (by omega)).pu (by simp only [go_sem, and_self])
 have c3 := xP ((bP s ids nm).foldl dF []) (by omega)
 have c4 := bW s (by omega)
 rw [hs.ok] at c4
 generalize (bP s ids nm).foldl dF [] = G at *
 have hz : FnC Tryd.prog 12 [.o (.d (.sl (G.map dJ))), eT ⟨2, 0, ⟨#[122, 122]⟩⟩] (.o (.d (.sl []))) := by
  have h := lI G ⟨2, 0, ⟨#[122, 122]⟩⟩ (by omega)
  rw [a3t fun x hx => a9l (hgv x hx)] at h
  exact h
 have c6 := wR ⟨#[122, 122]⟩
 have hnm := fun (i : Nat) (h1 : i < G.length) => sI G[i].fValue (by have := (a5y (hgv _ (List.getElem_mem h1))).1; omega) (a5y (hgv _ (List.getElem_mem h1))).2
 have hid := fun (i : Nat) (h1 : i < G.length) => (show FnC Tryd.prog 12 [.o (.d (.sl (G.map dJ))), eT G[i].fValue] (.o (.d (.sl (G[i].fIDs.map gL)))) by
  have h := lI G G[i].fValue (by omega)
  rw [a6Q hap i h1] at h
  exact h)
 have hsi := fun (i : Nat) (h1 : i < G.length) => sF G[i].fIDs (by
  have h2 := eD iL G h1
  have h3 : G[i].fIDs.length ≤ iL G[i] := by unfold iL; omega
  have h4 : bL iL G ≤ iB G := by unfold iB; omega
  omega)
 have hne := fun (i k : Nat) (h1 : k < i) (h2 : i < G.length) (h3 : k < G.length) => (show decide (pI G[i].fValue = pI G[k].fValue) = false by
  simp only [decide_eq_false_iff_not]
  intro e
  exact List.pairwise_iff_getElem.1 hap k i h3 h2 h1 (a8a (hgv _ (List.getElem_mem h2)) (hgv _ (List.getElem_mem h3)) e).symm)
 have q0 := @decide_true; refine b0k c1 c2 c3 ?_
 refine bX (α := Nat) (fun k => [(7, oi k)]) (fun _ => []) (fun k => k ≤ G.length) (fun k => G.length - k) 0 (fun _ => ?_) ?_ ?_ (fun k hk => ?_)
 ·simp only [go_sem]
 ·simp only [go_sem]; simp
 ·simp
 ·simp only [go_sem]
  by_cases hlt : k < G.length
  ·have hlt' : decide ((k : Int) < (G.length : Int)) = true := by simp only [decide_eq_true_eq]; omega
   have q0 := @hlt'; refine a0m c4 ?_
   refine bX (α := Nat) (fun m => [(8, oi m)]) (fun _ => []) (fun m => m ≤ k) (fun m => k - m) 0 (fun _ => ?_) ?_ ?_ (fun m hm => ?_)
   ·simp only [go_sem]
   ·simp only [go_sem]; simp
   ·simp
   ·simp only [go_sem]
    refine aL ?_
    refine cnd rfl (fun hlm => ?_) (fun hlm => ?_)
    ·simp only [decide_eq_true_eq, Int.ofNat_lt] at hlm
     have hml : m < G.length := by omega
     have n1 := hnm k hlt
     have n2 := hnm m hml
     have qH := aI @hlt (aI @hml ((hne k m hlm hlt hml))); repeat' (with_reducible first | refine nY ?_ | (refine mX ?_; try simp only [go_sem, qH]) | refine kD ?_ | (apply rE [5,11] [] [0,1,2,3,4,6,7,8,9,10] [0,1,2,3,4,6,7,8,9,10] ((.c 5 [] [6,7,8,9,10] (.c 11 [12] [12] .n .n) .n)) (by simp only [go_sem]; rfl) (by simp only [go_sem]; rfl) (by simp only [go_sem]; rfl) (by decide +kernel); (focus simp only [go_sem]; done)) | exact bQ | refine bC (uX ?_) ?_ | refine bD (aX ?_) ?_ | refine bE (aX ?_) ?_ | exact dA | exact oH | exact uB | refine rD ?_ | refine cP n1 ?_ | refine cP n2 ?_ | refine aO ?_ | fail)
     refine bF (m + 1) ?_ ?_ ?_
     ·simp only [go_sem]; simp
     ·exact hlm
     ·omega
    ·have d1 := hid k hlt
     have d2 := hsi k hlt
     have qH := @hlt; repeat' (with_reducible first | refine nY ?_ | (refine mX ?_; try simp only [go_sem, qH]) | refine kD ?_ | (apply rE [6,12] [] [0,1,2,3,4,5,7,8,9,10,11] [0,1,2,3,4,5,7,8,9,10,11] ((.c 6 [] [7,8,9,10,11] (.c 12 [13] [13] .n .n) .n)) (by simp only [go_sem]; rfl) (by simp only [go_sem]; rfl) (by simp only [go_sem]; rfl) (by decide +kernel); (focus simp only [go_sem]; done)) | exact bQ | refine bC (uX ?_) ?_ | refine bD (aX ?_) ?_ | refine bE (aX ?_) ?_ | exact dA | exact oH | exact uB | refine rD ?_ | refine cP d1 ?_ | refine cP d2 ?_ | refine aO ?_ | fail)
     refine bF (k + 1) ?_ ?_ ?_
     ·simp only [go_sem]; simp
     ·exact hlt
     ·omega
  ·have hlt' : decide ((k : Int) < (G.length : Int)) = false := by simp only [decide_eq_false_iff_not]; omega
   have e0 : decide (((0 : Nat) : Int) = 0) = true := rfl
   have q0 := @hlt'; refine a7O c6 hz ?_
   exact aA ⟨⟨_, rfl, by simp only [go_sem, e0]⟩, trivial⟩
end Go.Proofs.YtakopfjdmmnjcaaDoor
end
