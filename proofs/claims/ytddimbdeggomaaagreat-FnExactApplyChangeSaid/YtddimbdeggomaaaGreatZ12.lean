/- Joined texts. -/
import Derived.Test.YtddimbdeggomaaaGreatZ11
import Derived.Ground.NamesProg
import Derived.Ground.Names2Prog
import Derived.Shelf.Sort.Plain
import Derived.Shelf.Slices.In.SortNone
import Derived.Shelf.Slices.CompactI
import Derived.Shelf.Slices.CompactS
import Derived.Test.YtddimbdeggomaaaGreatProg
import Derived.Test.YtddimbdeggomaaaGreatZ06
set_option linter.all false
section
set_option maxRecDepth 100000
set_option maxHeartbeats 4000000
namespace Go.Proofs.YtddimbdeggomaaaGreat
open Go Go.Sx Go.RowKit Go.Proofs
def tZ {α : Type} (g : α → ByteArray) (l : List α) (k : Nat) : Bool := decide (k = 0) || (match l[k - 1]?, l[k]? with
 | some p, some x => gB (g p) (g x)
 | _, _ => true)
theorem rF {α : Type} (g : α → ByteArray) (l : List α) (k : Nat) (h : ¬ 0 < k) : tZ g l k = true := by
 have e : k = 0 := by omega
 simp [tZ, e]
theorem kK {α : Type} (g : α → ByteArray) (l : List α) (k : Nat) (h : 0 < k) (hl : k < l.length) : tZ g l k = gB (g (l[k - 1]'(by omega))) (g l[k]) := by
 have h1 : k - 1 < l.length := by omega
 have e : ¬ k = 0 := by omega
 simp [tZ, e, List.getElem?_eq_getElem h1, List.getElem?_eq_getElem hl]
def a7s (l : List TFile) (k : Nat) : Bool := decide (k = 0) || (match l[k - 1]?, l[k]? with
 | some p, some x => !decide (x.fID ≤ p.fID)
 | _, _ => true)
theorem a4F (l : List TFile) (k : Nat) (h : ¬ 0 < k) : a7s l k = true := by
 have e : k = 0 := by omega
 simp [a7s, e]
theorem qK (l : List TFile) (k : Nat) (h : 0 < k) (hl : k < l.length) : a7s l k = !decide (l[k].fID ≤ (l[k - 1]'(by omega)).fID) := by
 have h1 : k - 1 < l.length := by omega
 have e : ¬ k = 0 := by omega
 simp only [a7s, e, decide_false, Bool.false_or, List.getElem?_eq_getElem h1, List.getElem?_eq_getElem hl]
def iB (s : ByteArray) : List TField → Int
 | [] => 0
 | f :: l => if f.fName = s then f.fKind else iB s l
theorem yC (s : ByteArray) (l : List TField) (k : Nat) (h : k < l.length) : iB s (l.drop k) = if l[k].fName = s then l[k].fKind else iB s (l.drop (k + 1)) := by
 rw [List.drop_eq_getElem_cons h]; rfl
def iY (s : List TField) (k : Nat) : Bool := match s[k]? with
 | none => true
 | some f => bX f.fName 1 && (inB f.fKind 1 2 && tZ TField.fName s k)
def okSchema (s : List TField) : Bool := (List.range s.length).all (iY s) && decide ((s.length : Int) ≤ 5)
def rY (s : List TField) (n : ByteArray) (v : TValue) : Bool := iH v && (!decide (v.fKind = 0) && decide (v.fKind = iB n s))
def jX (s : List TField) (l : List TAttr) (k : Nat) : Bool := match l[k]? with
 | none => true
 | some a => tZ TAttr.fName l k && rY s a.fName a.fValue
def eP (s : List TField) (f : TFile) : Bool := (List.range f.fAttrs.length).all (jX s f.fAttrs) && (inB f.fID 1 60 && (inB f.fOwner 0 2 && (inB f.fLink 0 60 && okSchema s)))
def iJ (x : TStore) (k : Nat) : Bool := match x.fFiles[k]? with
 | none => true
 | some f => eP x.fSchema f && (!decide (x.fNextID ≤ f.fID) && a7s x.fFiles k)
def bS (x : TStore) : Bool := (List.range x.fFiles.length).all (iJ x) && (okSchema x.fSchema && (decide ((x.fFiles.length : Int) ≤ 12) && inB x.fNextID 1 61))
def jJ (d : List TDir) (k : Nat) : Bool := match d[k]? with
 | none => true
 | some x => bX x.fName 6 && (tZ TDir.fName d k && okQ x.fQuery)
def bI (d : List TDir) : Bool := (List.range d.length).all (jJ d) && decide ((d.length : Int) ≤ 5)
theorem mW (l : List TField) (s : ByteArray) (hl : l.length ≤ 4300000) : FnC Tryz.prog 294 [.o (.d (.sl (l.map bG))), os s] (oi (iB s l)) := by
 generalize hg : iB s l = res
 refine ent Tryz.func294 rfl Tryz.call294 rfl (fun C => ?_); simp only [go_sem, st0, Tryz.ntmps294]
 refine aD ?_
 refine aN (α := Nat) (fun k => [(9, oi k)]) (fun k => []) (fun k => k ≤ l.length ∧ iB s (l.drop k) = res) (fun k => l.length - k) 0 (fun _ => ?_) ?_ ?_ (fun k hk => ?_)
 ·simp only [go_sem]
 ·simp only [go_sem]; simp
 ·simp [hg]
 ·simp only [go_sem]
  obtain ⟨hk, hq⟩ := hk
  refine aD ?_
  refine cnd rfl (fun h1 => ?_) (fun h1 => ?_)
  ·simp only [decide_eq_true_eq, Int.ofNat_lt] at h1
   rw [yC s l k h1] at hq
   by_cases hv : l[k].fName = s
   ·rw [if_pos hv] at hq
    have q0 := @h1; have q1 := @hv; have q2 := @decide_true; refine mG ?_
    exact aA ⟨⟨_, rfl, by simp only [go_sem, hq]⟩, trivial⟩
   ·rw [if_neg hv] at hq
    have q0 := @h1; have q1 := @hv; have q2 := @decide_false; refine mG ?_
    refine aF (k + 1) ?_ ?_ ?_
    ·simp only [go_sem]; simp
    ·exact ⟨by omega, hq⟩
    ·omega
  ·simp only [decide_eq_false_iff_not] at h1
   have e : k = l.length := by omega
   subst e
   rw [List.drop_length] at hq
   have hn : res = 0 := hq.symm
   subst hn
   refine aD ?_
   exact aA ⟨⟨_, rfl, by simp only [go_sem]⟩, trivial⟩
theorem iZ (s : List TField) (n : ByteArray) (v : TValue) (hl : s.length ≤ 4300000) (hs : v.fStr.size ≤ 4300000) : FnC Tryz.prog 252 [.o (.d (.sl (s.map bG))), os n, pR v] (ob (rY s n v)) := by
 have hr : rY s n v = (iH v && (!decide (v.fKind = 0) && decide (v.fKind = iB n s))) := rfl
 refine ent Tryz.func252 rfl Tryz.call252 rfl (fun C => ?_); simp only [go_sem, st0, Tryz.ntmps252]
 have q0 := @decide_true; have q1 := @decide_false; refine xG (aG v hs) (mW s n hl) ?_
 cases hv : iH v
 ·rw [hv] at hr
  simp only [go_sem, hv]
  have q0 := @decide_true; have q1 := @decide_false; have q2 := @hv; refine mG ?_
  exact aA ⟨⟨_, rfl, by simp only [go_sem, hr, Bool.and_true, Bool.and_false, Bool.true_and, Bool.false_and, Bool.not_true, Bool.not_false, decide_true, decide_false]⟩, trivial⟩
 ·rw [hv] at hr
  simp only [go_sem, hv]
  have q0 := @decide_true; have q1 := @decide_false; have q2 := @hv; refine a6X (aG v hs) (mW s n hl) ?_
  by_cases hk : v.fKind = 0
  ·simp only [hk, decide_true] at hr
   simp only [go_sem, hk, decide_true]
   have q0 := @decide_true; have q1 := @decide_false; have q2 := @hv; have q3 := @hk; refine mR ?_
   exact aA ⟨⟨_, rfl, by simp only [go_sem, hr, Bool.and_true, Bool.and_false, Bool.true_and, Bool.false_and, Bool.not_true, Bool.not_false, decide_true, decide_false]⟩, trivial⟩
  ·simp only [hk, decide_false] at hr
   simp only [go_sem, hk, decide_false]
   have q0 := @decide_true; have q1 := @decide_false; have q2 := @hv; have q3 := @hk; refine a0f (aG v hs) (mW s n hl) ?_
   exact aA ⟨⟨_, rfl, by simp only [go_sem, hr, Bool.and_true, Bool.and_false, Bool.true_and, Bool.false_and, Bool.not_true, Bool.not_false, decide_true, decide_false]⟩, trivial⟩
theorem iP (s : List TField) (hl : aQ s ≤ 4300000) : FnC Tryz.prog 243 [.o (.d (.sl (s.map bG)))] (ob (okSchema s)) := by
 unfold aQ at hl
 refine ent Tryz.func243 rfl Tryz.call243 rfl (fun C => ?_); simp only [go_sem, st0, Tryz.ntmps243]
 refine aD ?_
 refine aN (α := Nat) (fun k => [(7, oi k)]) (fun _ => []) (fun k => k ≤ s.length ∧ (List.range s.length).all (iY s) = ((List.range s.length).drop k).all (iY s)) (fun k => s.length - k) 0 (fun _ => ?_) ?_ ?_ (fun k hk => ?_)
 ·simp only [go_sem]
 ·simp only [go_sem]; simp
 ·simp
 ·obtain ⟨hk, hq⟩ := hk
  simp only [go_sem]
  refine aD ?_
  refine cnd rfl (fun h => ?_) (fun h => ?_)
  ·simp only [decide_eq_true_eq, Int.ofNat_lt] at h
   have h' : k < (List.range s.length).length := by simpa using h
   have hd := List.drop_eq_getElem_cons h'
   rw [hd, List.all_cons, List.getElem_range] at hq
   have hw := bC wField s h
   have hw1 : s[k].fName.size ≤ wField s[k] := by unfold wField; omega
   have hr : iY s k = (bX s[k].fName 1 && (inB s[k].fKind 1 2 && tZ TField.fName s k)) := by unfold iY; rw [List.getElem?_eq_getElem h]
   have q0 := @h; have q1 := @decide_true; have q2 := @decide_false; refine nP (aB s[k].fName) ?_
   cases ht : bX s[k].fName 1
   ·rw [ht] at hr
    simp only [go_sem, ht]
    have q0 := @h; have q1 := @decide_true; have q2 := @decide_false; have q3 := @ht; refine mR ?_
    have hf : okSchema s = false := by
     unfold okSchema
     rw [hq, hr]; simp
    exact aA ⟨⟨_, rfl, by simp only [go_sem, hf]⟩, trivial⟩
   ·rw [ht] at hr
    simp only [go_sem, ht]
    have q0 := @h; have q1 := @decide_true; have q2 := @decide_false; have q3 := @ht; refine a1O (aB s[k].fName) ?_
    cases hb : inB s[k].fKind 1 2
    ·rw [hb] at hr
     have hb2 : ¬ (1 ≤ s[k].fKind ∧ s[k].fKind ≤ 2) := by intro hx; simp [inB, hx.1, hx.2] at hb
     have k1 : ¬ s[k].fKind = 1 := by omega
     have k2 : ¬ s[k].fKind = 2 := by omega
     simp only [go_sem, k1, k2, decide_false]
     have q0 := @h; have q1 := @decide_true; have q2 := @decide_false; have q3 := @ht; have q4 := @k1; have q5 := @k2; refine b4s ?_
     have hf : okSchema s = false := by
      unfold okSchema
      rw [hq, hr]; simp
     exact aA ⟨⟨_, rfl, by simp only [go_sem, hf]⟩, trivial⟩
    ·rw [hb] at hr
     have hb2 : 1 ≤ s[k].fKind ∧ s[k].fKind ≤ 2 := by simpa [inB] using hb
     by_cases k1 : s[k].fKind = 1
     ·simp only [go_sem, k1, decide_true]
      have q0 := @h; have q1 := @decide_true; have q2 := @decide_false; have q3 := @ht; have q4 := @k1; refine a2P (aB s[k].fName) ?_
      by_cases hk0 : 0 < k
      ·have hki : (0 : Int) < (k : Int) := by omega
       have hkx : (k : Int) - 1 = ((k - 1 : Nat) : Int) := by omega
       have hkl : k - 1 < s.length := by omega
       rw [kK TField.fName s k hk0 h] at hr
       simp only [go_sem, hki, hkx, hkl, decide_true]
       have q0 := @h; have q1 := @decide_true; have q2 := @decide_false; have q3 := @ht; have q4 := @k1; have q5 := @hki; have q6 := @hkx; have q7 := @hkl; refine a2R (aB s[k].fName) ?_
       cases ho : gB (TField.fName s[k - 1]) (TField.fName s[k])
       ·rw [ho] at hr
        simp only [go_sem, ho]
        have q0 := @h; have q1 := @decide_true; have q2 := @decide_false; have q3 := @ht; have q4 := @k1; have q5 := @hki; have q6 := @hkx; have q7 := @hkl; have q8 := @ho; refine a1P ?_
        have hf : okSchema s = false := by
         unfold okSchema
         rw [hq, hr]; simp
        exact aA ⟨⟨_, rfl, by simp only [go_sem, hf]⟩, trivial⟩
       ·rw [ho] at hr
        simp only [go_sem, ho]
        have q0 := @h; have q1 := @decide_true; have q2 := @decide_false; have q3 := @ht; have q4 := @k1; have q5 := @hki; have q6 := @hkx; have q7 := @hkl; have q8 := @ho; refine b2F (aB s[k].fName) ?_
        refine aF (k + 1) ?_ ?_ ?_
        ·simp only [go_sem]; simp
        ·refine ⟨h, ?_⟩
         rw [hq, hr]; simp
        ·omega
      ·have hki : ¬ (0 : Int) < (k : Int) := by omega
       rw [rF TField.fName s k hk0] at hr
       simp only [go_sem, hki, decide_false]
       have q0 := @h; have q1 := @decide_true; have q2 := @decide_false; have q3 := @ht; have q4 := @k1; have q5 := @hki; refine a2Q (aB s[k].fName) ?_
       refine aF (k + 1) ?_ ?_ ?_
       ·simp only [go_sem]; simp
       ·refine ⟨h, ?_⟩
        rw [hq, hr]; simp
       ·omega
     ·have k2 : s[k].fKind = 2 := by omega
      simp only [go_sem, k1, k2, decide_true, decide_false]
      have q0 := @h; have q1 := @decide_true; have q2 := @decide_false; have q3 := @ht; have q4 := @k1; have q5 := @k2; refine a2Q (aB s[k].fName) ?_
      by_cases hk0 : 0 < k
      ·have hki : (0 : Int) < (k : Int) := by omega
       have hkx : (k : Int) - 1 = ((k - 1 : Nat) : Int) := by omega
       have hkl : k - 1 < s.length := by omega
       rw [kK TField.fName s k hk0 h] at hr
       simp only [go_sem, hki, hkx, hkl, decide_true]
       have q0 := @h; have q1 := @decide_true; have q2 := @decide_false; have q3 := @ht; have q4 := @k1; have q5 := @k2; have q6 := @hki; have q7 := @hkx; have q8 := @hkl; refine b2F (aB s[k].fName) ?_
       cases ho : gB (TField.fName s[k - 1]) (TField.fName s[k])
       ·rw [ho] at hr
        simp only [go_sem, ho]
        have q0 := @h; have q1 := @decide_true; have q2 := @decide_false; have q3 := @ht; have q4 := @k1; have q5 := @k2; have q6 := @hki; have q7 := @hkx; have q8 := @hkl; have q9 := @ho; refine tH ?_
        have hf : okSchema s = false := by
         unfold okSchema
         rw [hq, hr]; simp
        exact aA ⟨⟨_, rfl, by simp only [go_sem, hf]⟩, trivial⟩
       ·rw [ho] at hr
        simp only [go_sem, ho]
        have q0 := @h; have q1 := @decide_true; have q2 := @decide_false; have q3 := @ht; have q4 := @k1; have q5 := @k2; have q6 := @hki; have q7 := @hkx; have q8 := @hkl; have q9 := @ho; refine b1x (aB s[k].fName) ?_
        refine aF (k + 1) ?_ ?_ ?_
        ·simp only [go_sem]; simp
        ·refine ⟨h, ?_⟩
         rw [hq, hr]; simp
        ·omega
      ·have hki : ¬ (0 : Int) < (k : Int) := by omega
       rw [rF TField.fName s k hk0] at hr
       simp only [go_sem, hki, decide_false]
       have q0 := @h; have q1 := @decide_true; have q2 := @decide_false; have q3 := @ht; have q4 := @k1; have q5 := @k2; have q6 := @hki; refine b6e (aB s[k].fName) ?_
       refine aF (k + 1) ?_ ?_ ?_
       ·simp only [go_sem]; simp
       ·refine ⟨h, ?_⟩
        rw [hq, hr]; simp
       ·omega
  ·simp only [decide_eq_false_iff_not] at h
   have e : k = s.length := by omega
   have hq' : (List.range s.length).all (iY s) = true := by
    rw [hq, List.drop_of_length_le (by simp [e])]; rfl
   have hr : okSchema s = decide ((s.length : Int) ≤ 5) := by unfold okSchema; rw [hq']; simp only [Bool.true_and]
   have q0 := @decide_true; have q1 := @decide_false; refine lL ?_
   exact aA ⟨⟨_, rfl, by simp only [go_sem, hr, Bool.and_true, Bool.and_false, Bool.true_and, Bool.false_and, Bool.not_true, Bool.not_false, decide_true, decide_false]⟩, trivial⟩
theorem dU (n : Int) : FnC Tryz.prog 151 [oi n] (ob (inB n 0 2)) := by
 refine ent Tryz.func151 rfl Tryz.call151 rfl (fun C => ?_); simp only [go_sem, st0, Tryz.ntmps151]
 refine gP (aS n 0 2) ?_
 exact aA ⟨⟨_, rfl, by simp only [go_sem]⟩, trivial⟩
theorem gN (s : List TField) (f : TFile) (hl : aQ s ≤ 4300000) (hf : wFile f ≤ 4300000) : FnC Tryz.prog 185 [.o (.d (.sl (s.map bG))), dC f] (ob (eP s f)) := by
 unfold aQ at hl
 unfold wFile eB at hf
 refine ent Tryz.func185 rfl Tryz.call185 rfl (fun C => ?_); simp only [go_sem, st0, Tryz.ntmps185]
 refine aD ?_
 refine aN (α := Nat) (fun k => [(10, oi k)]) (fun _ => []) (fun k => k ≤ f.fAttrs.length ∧ (List.range f.fAttrs.length).all (jX s f.fAttrs) = ((List.range f.fAttrs.length).drop k).all (jX s f.fAttrs)) (fun k => f.fAttrs.length - k) 0 (fun _ => ?_) ?_ ?_ (fun k hk => ?_)
 ·simp only [go_sem]
 ·simp only [go_sem]; simp
 ·simp
 ·obtain ⟨hk, hq⟩ := hk
  simp only [go_sem]
  refine aD ?_
  refine cnd rfl (fun h => ?_) (fun h => ?_)
  ·simp only [decide_eq_true_eq, Int.ofNat_lt] at h
   have h' : k < (List.range f.fAttrs.length).length := by simpa using h
   have hd := List.drop_eq_getElem_cons h'
   rw [hd, List.all_cons, List.getElem_range] at hq
   have hw := bC wAttr f.fAttrs h
   have hw1 : f.fAttrs[k].fName.size + f.fAttrs[k].fValue.fStr.size ≤ wAttr f.fAttrs[k] := by unfold wAttr gX; omega
   have hr : jX s f.fAttrs k = (tZ TAttr.fName f.fAttrs k && rY s f.fAttrs[k].fName f.fAttrs[k].fValue) := by unfold jX; rw [List.getElem?_eq_getElem h]
   have q0 := @h; have q1 := @decide_true; have q2 := @decide_false; refine nP (iZ s f.fAttrs[k].fName f.fAttrs[k].fValue (by omega) (by omega)) ?_
   by_cases hk0 : 0 < k
   ·have hki : (0 : Int) < (k : Int) := by omega
    have hkx : (k : Int) - 1 = ((k - 1 : Nat) : Int) := by omega
    have hkl : k - 1 < f.fAttrs.length := by omega
    rw [kK TAttr.fName f.fAttrs k hk0 h] at hr
    simp only [go_sem, hki, hkx, hkl, decide_true]
    have q0 := @h; have q1 := @decide_true; have q2 := @decide_false; have q3 := @hki; have q4 := @hkx; have q5 := @hkl; refine a2Q (iZ s f.fAttrs[k].fName f.fAttrs[k].fValue (by omega) (by omega)) ?_
    cases ho : gB (TAttr.fName f.fAttrs[k - 1]) (TAttr.fName f.fAttrs[k])
    ·rw [ho] at hr
     simp only [go_sem, ho]
     have q0 := @h; have q1 := @decide_true; have q2 := @decide_false; have q3 := @hki; have q4 := @hkx; have q5 := @hkl; have q6 := @ho; refine a6Y ?_
     have hf : eP s f = false := by
      unfold eP
      rw [hq, hr]; simp
     exact aA ⟨⟨_, rfl, by simp only [go_sem, hf]⟩, trivial⟩
    ·rw [ho] at hr
     simp only [go_sem, ho]
     have q0 := @h; have q1 := @decide_true; have q2 := @decide_false; have q3 := @hki; have q4 := @hkx; have q5 := @hkl; have q6 := @ho; refine b6e (iZ s f.fAttrs[k].fName f.fAttrs[k].fValue (by omega) (by omega)) ?_
     cases hm : rY s f.fAttrs[k].fName f.fAttrs[k].fValue
     ·rw [hm] at hr
      simp only [go_sem, hm]
      have q0 := @h; have q1 := @decide_true; have q2 := @decide_false; have q3 := @hki; have q4 := @hkx; have q5 := @hkl; have q6 := @ho; have q7 := @hm; refine a3R ?_
      have hf : eP s f = false := by
       unfold eP
       rw [hq, hr]; simp
      exact aA ⟨⟨_, rfl, by simp only [go_sem, hf]⟩, trivial⟩
     ·rw [hm] at hr
      simp only [go_sem, hm]
      have q0 := @h; have q1 := @decide_true; have q2 := @decide_false; have q3 := @hki; have q4 := @hkx; have q5 := @hkl; have q6 := @ho; have q7 := @hm; refine a2R (iZ s f.fAttrs[k].fName f.fAttrs[k].fValue (by omega) (by omega)) ?_
      refine aF (k + 1) ?_ ?_ ?_
      ·simp only [go_sem]; simp
      ·refine ⟨h, ?_⟩
       rw [hq, hr]; simp
      ·omega
   ·have hki : ¬ (0 : Int) < (k : Int) := by omega
    rw [rF TAttr.fName f.fAttrs k hk0] at hr
    simp only [go_sem, hki, decide_false]
    have q0 := @h; have q1 := @decide_true; have q2 := @decide_false; have q3 := @hki; refine a1O (iZ s f.fAttrs[k].fName f.fAttrs[k].fValue (by omega) (by omega)) ?_
    cases hm : rY s f.fAttrs[k].fName f.fAttrs[k].fValue
    ·rw [hm] at hr
     simp only [go_sem, hm]
     have q0 := @h; have q1 := @decide_true; have q2 := @decide_false; have q3 := @hki; have q4 := @hm; refine a0M ?_
     have hf : eP s f = false := by
      unfold eP
      rw [hq, hr]; simp
     exact aA ⟨⟨_, rfl, by simp only [go_sem, hf]⟩, trivial⟩
    ·rw [hm] at hr
     simp only [go_sem, hm]
     have q0 := @h; have q1 := @decide_true; have q2 := @decide_false; have q3 := @hki; have q4 := @hm; refine a2P (iZ s f.fAttrs[k].fName f.fAttrs[k].fValue (by omega) (by omega)) ?_
     refine aF (k + 1) ?_ ?_ ?_
     ·simp only [go_sem]; simp
     ·refine ⟨h, ?_⟩
      rw [hq, hr]; simp
     ·omega
  ·simp only [decide_eq_false_iff_not] at h
   have e : k = f.fAttrs.length := by omega
   have hq' : (List.range f.fAttrs.length).all (jX s f.fAttrs) = true := by
    rw [hq, List.drop_of_length_le (by simp [e])]; rfl
   have hr : eP s f = (inB f.fID 1 60 && (inB f.fOwner 0 2 && (inB f.fLink 0 60 && okSchema s))) := by unfold eP; rw [hq']; simp only [Bool.true_and]
   have q0 := @decide_true; have q1 := @decide_false; refine b4r (aS f.fID 1 60) (dU f.fOwner) (aS f.fLink 0 60) (iP s (by unfold aQ; omega)) ?_
   cases h1 : inB f.fID 1 60
   ·rw [h1] at hr
    simp only [go_sem, h1]
    have q0 := @decide_true; have q1 := @decide_false; have q2 := @h1; refine mG ?_
    exact aA ⟨⟨_, rfl, by simp only [go_sem, hr, Bool.and_true, Bool.and_false, Bool.true_and, Bool.false_and, Bool.not_true, Bool.not_false, decide_true, decide_false]⟩, trivial⟩
   ·rw [h1] at hr
    simp only [go_sem, h1]
    have q0 := @decide_true; have q1 := @decide_false; have q2 := @h1; refine b6d (aS f.fID 1 60) (dU f.fOwner) (aS f.fLink 0 60) (iP s (by unfold aQ; omega)) ?_
    cases h2 : inB f.fOwner 0 2
    ·rw [h2] at hr
     simp only [go_sem, h2]
     have q0 := @decide_true; have q1 := @decide_false; have q2 := @h1; have q3 := @h2; refine mR ?_
     exact aA ⟨⟨_, rfl, by simp only [go_sem, hr, Bool.and_true, Bool.and_false, Bool.true_and, Bool.false_and, Bool.not_true, Bool.not_false, decide_true, decide_false]⟩, trivial⟩
    ·rw [h2] at hr
     simp only [go_sem, h2]
     have q0 := @decide_true; have q1 := @decide_false; have q2 := @h1; have q3 := @h2; refine b7J (aS f.fID 1 60) (dU f.fOwner) (aS f.fLink 0 60) (iP s (by unfold aQ; omega)) ?_
     cases h3 : inB f.fLink 0 60
     ·rw [h3] at hr
      simp only [go_sem, h3]
      have q0 := @decide_true; have q1 := @decide_false; have q2 := @h1; have q3 := @h2; have q4 := @h3; refine a0M ?_
      exact aA ⟨⟨_, rfl, by simp only [go_sem, hr, Bool.and_true, Bool.and_false, Bool.true_and, Bool.false_and, Bool.not_true, Bool.not_false, decide_true, decide_false]⟩, trivial⟩
     ·rw [h3] at hr
      simp only [go_sem, h3]
      have q0 := @decide_true; have q1 := @decide_false; have q2 := @h1; have q3 := @h2; have q4 := @h3; refine b8P (aS f.fID 1 60) (dU f.fOwner) (aS f.fLink 0 60) (iP s (by unfold aQ; omega)) ?_
      exact aA ⟨⟨_, rfl, by simp only [go_sem, hr, Bool.and_true, Bool.and_false, Bool.true_and, Bool.false_and, Bool.not_true, Bool.not_false, decide_true, decide_false]⟩, trivial⟩
theorem eF (x : TStore) (hx : aL x ≤ 4300000) : FnC Tryz.prog 163 [dJ x] (ob (bS x)) := by
 unfold aL aQ bU at hx
 refine ent Tryz.func163 rfl Tryz.call163 rfl (fun C => ?_); simp only [go_sem, st0, Tryz.ntmps163]
 refine aD ?_
 refine aN (α := Nat) (fun k => [(8, oi k)]) (fun _ => []) (fun k => k ≤ x.fFiles.length ∧ (List.range x.fFiles.length).all (iJ x) = ((List.range x.fFiles.length).drop k).all (iJ x)) (fun k => x.fFiles.length - k) 0 (fun _ => ?_) ?_ ?_ (fun k hk => ?_)
 ·simp only [go_sem]
 ·simp only [go_sem]; simp
 ·simp
 ·obtain ⟨hk, hq⟩ := hk
  simp only [go_sem]
  refine aD ?_
  refine cnd rfl (fun h => ?_) (fun h => ?_)
  ·simp only [decide_eq_true_eq, Int.ofNat_lt] at h
   have h' : k < (List.range x.fFiles.length).length := by simpa using h
   have hd := List.drop_eq_getElem_cons h'
   rw [hd, List.all_cons, List.getElem_range] at hq
   have hw := bC wFile x.fFiles h
   have hr : iJ x k = (eP x.fSchema x.fFiles[k] && (!decide (x.fNextID ≤ x.fFiles[k].fID) && a7s x.fFiles k)) := by unfold iJ; rw [List.getElem?_eq_getElem h]
   have q0 := @h; have q1 := @decide_true; have q2 := @decide_false; refine nP (gN x.fSchema x.fFiles[k] (by unfold aQ; omega) (by omega)) ?_
   cases hm : eP x.fSchema x.fFiles[k]
   ·rw [hm] at hr
    simp only [go_sem, hm]
    have q0 := @h; have q1 := @decide_true; have q2 := @decide_false; have q3 := @hm; refine mR ?_
    have hf : bS x = false := by
     unfold bS
     rw [hq, hr]; simp
    exact aA ⟨⟨_, rfl, by simp only [go_sem, hf]⟩, trivial⟩
   ·rw [hm] at hr
    simp only [go_sem, hm]
    have q0 := @h; have q1 := @decide_true; have q2 := @decide_false; have q3 := @hm; refine a1O (gN x.fSchema x.fFiles[k] (by unfold aQ; omega) (by omega)) ?_
    by_cases hn : x.fNextID ≤ x.fFiles[k].fID
    ·simp only [hn, decide_true] at hr
     simp only [go_sem, hn, decide_true]
     have q0 := @h; have q1 := @decide_true; have q2 := @decide_false; have q3 := @hm; have q4 := @hn; refine a0M ?_
     have hf : bS x = false := by
      unfold bS
      rw [hq, hr]; simp
     exact aA ⟨⟨_, rfl, by simp only [go_sem, hf]⟩, trivial⟩
    ·simp only [hn, decide_false] at hr
     simp only [go_sem, hn, decide_false]
     have q0 := @h; have q1 := @decide_true; have q2 := @decide_false; have q3 := @hm; have q4 := @hn; refine a2P (gN x.fSchema x.fFiles[k] (by unfold aQ; omega) (by omega)) ?_
     by_cases hk0 : 0 < k
     ·have hki : (0 : Int) < (k : Int) := by omega
      have hkx : (k : Int) - 1 = ((k - 1 : Nat) : Int) := by omega
      have hkl : k - 1 < x.fFiles.length := by omega
      rw [qK x.fFiles k hk0 h] at hr
      simp only [go_sem, hki, hkx, hkl, decide_true]
      have q0 := @h; have q1 := @decide_true; have q2 := @decide_false; have q3 := @hm; have q4 := @hn; have q5 := @hki; have q6 := @hkx; have q7 := @hkl; refine a2R (gN x.fSchema x.fFiles[k] (by unfold aQ; omega) (by omega)) ?_
      by_cases ho : x.fFiles[k].fID ≤ x.fFiles[k - 1].fID
      ·simp only [ho, decide_true] at hr
       simp only [go_sem, ho, decide_true]
       have q0 := @h; have q1 := @decide_true; have q2 := @decide_false; have q3 := @hm; have q4 := @hn; have q5 := @hki; have q6 := @hkx; have q7 := @hkl; have q8 := @ho; refine a1P ?_
       have hf : bS x = false := by
        unfold bS
        rw [hq, hr]; simp
       exact aA ⟨⟨_, rfl, by simp only [go_sem, hf]⟩, trivial⟩
      ·simp only [ho, decide_false] at hr
       simp only [go_sem, ho, decide_false]
       have q0 := @h; have q1 := @decide_true; have q2 := @decide_false; have q3 := @hm; have q4 := @hn; have q5 := @hki; have q6 := @hkx; have q7 := @hkl; have q8 := @ho; refine b2F (gN x.fSchema x.fFiles[k] (by unfold aQ; omega) (by omega)) ?_
       refine aF (k + 1) ?_ ?_ ?_
       ·simp only [go_sem]; simp
       ·refine ⟨h, ?_⟩
        rw [hq, hr]; simp
       ·omega
     ·have hki : ¬ (0 : Int) < (k : Int) := by omega
      rw [a4F x.fFiles k hk0] at hr
      simp only [go_sem, hki, decide_false]
      have q0 := @h; have q1 := @decide_true; have q2 := @decide_false; have q3 := @hm; have q4 := @hn; have q5 := @hki; refine a2Q (gN x.fSchema x.fFiles[k] (by unfold aQ; omega) (by omega)) ?_
      refine aF (k + 1) ?_ ?_ ?_
      ·simp only [go_sem]; simp
      ·refine ⟨h, ?_⟩
       rw [hq, hr]; simp
      ·omega
  ·simp only [decide_eq_false_iff_not] at h
   have e : k = x.fFiles.length := by omega
   have hq' : (List.range x.fFiles.length).all (iJ x) = true := by
    rw [hq, List.drop_of_length_le (by simp [e])]; rfl
   have hr : bS x = (okSchema x.fSchema && (decide ((x.fFiles.length : Int) ≤ 12) && inB x.fNextID 1 61)) := by unfold bS; rw [hq']; simp only [Bool.true_and]
   have q0 := @decide_true; have q1 := @decide_false; refine xG (iP x.fSchema (by unfold aQ; omega)) (aS x.fNextID 1 61) ?_
   cases h0 : okSchema x.fSchema
   ·rw [h0] at hr
    simp only [go_sem, h0]
    have q0 := @decide_true; have q1 := @decide_false; have q2 := @h0; refine mG ?_
    exact aA ⟨⟨_, rfl, by simp only [go_sem, hr, Bool.and_true, Bool.and_false, Bool.true_and, Bool.false_and, Bool.not_true, Bool.not_false, decide_true, decide_false]⟩, trivial⟩
   ·rw [h0] at hr
    simp only [go_sem, h0]
    have q0 := @decide_true; have q1 := @decide_false; have q2 := @h0; refine a6X (iP x.fSchema (by unfold aQ; omega)) (aS x.fNextID 1 61) ?_
    by_cases h1 : (x.fFiles.length : Int) ≤ 12
    ·simp only [h1, decide_true] at hr
     simp only [go_sem, h1, decide_true]
     have q0 := @decide_true; have q1 := @decide_false; have q2 := @h0; have q3 := @h1; refine a0f (iP x.fSchema (by unfold aQ; omega)) (aS x.fNextID 1 61) ?_
     exact aA ⟨⟨_, rfl, by simp only [go_sem, hr, Bool.and_true, Bool.and_false, Bool.true_and, Bool.false_and, Bool.not_true, Bool.not_false, decide_true, decide_false]⟩, trivial⟩
    ·simp only [h1, decide_false] at hr
     simp only [go_sem, h1, decide_false]
     have q0 := @decide_true; have q1 := @decide_false; have q2 := @h0; have q3 := @h1; refine mR ?_
     exact aA ⟨⟨_, rfl, by simp only [go_sem, hr, Bool.and_true, Bool.and_false, Bool.true_and, Bool.false_and, Bool.not_true, Bool.not_false, decide_true, decide_false]⟩, trivial⟩
theorem gH (d : List TDir) (hd : aP d ≤ 4300000) : FnC Tryz.prog 202 [.o (.d (.sl (d.map aM)))] (ob (bI d)) := by
 unfold aP at hd
 refine ent Tryz.func202 rfl Tryz.call202 rfl (fun C => ?_); simp only [go_sem, st0, Tryz.ntmps202]
 refine aD ?_
 refine aN (α := Nat) (fun k => [(7, oi k)]) (fun _ => []) (fun k => k ≤ d.length ∧ (List.range d.length).all (jJ d) = ((List.range d.length).drop k).all (jJ d)) (fun k => d.length - k) 0 (fun _ => ?_) ?_ ?_ (fun k hk => ?_)
 ·simp only [go_sem]
 ·simp only [go_sem]; simp
 ·simp
 ·obtain ⟨hk, hq⟩ := hk
  simp only [go_sem]
  refine aD ?_
  refine cnd rfl (fun h => ?_) (fun h => ?_)
  ·simp only [decide_eq_true_eq, Int.ofNat_lt] at h
   have h' : k < (List.range d.length).length := by simpa using h
   have hd := List.drop_eq_getElem_cons h'
   rw [hd, List.all_cons, List.getElem_range] at hq
   have hw := bC wDir d h
   have hw1 : d[k].fName.size + bQ d[k].fQuery ≤ wDir d[k] := by unfold wDir; omega
   have hr : jJ d k = (bX d[k].fName 6 && (tZ TDir.fName d k && okQ d[k].fQuery)) := by unfold jJ; rw [List.getElem?_eq_getElem h]
   have q0 := @h; have q1 := @decide_true; have q2 := @decide_false; refine a6X (bD d[k].fName (by omega)) (cZ d[k].fQuery (by omega)) ?_
   cases ht : bX d[k].fName 6
   ·rw [ht] at hr
    simp only [go_sem, ht]
    have q0 := @h; have q1 := @decide_true; have q2 := @decide_false; have q3 := @ht; refine mR ?_
    have hf : bI d = false := by
     unfold bI
     rw [hq, hr]; simp
    exact aA ⟨⟨_, rfl, by simp only [go_sem, hf]⟩, trivial⟩
   ·rw [ht] at hr
    simp only [go_sem, ht]
    have q0 := @h; have q1 := @decide_true; have q2 := @decide_false; have q3 := @ht; refine a0f (bD d[k].fName (by omega)) (cZ d[k].fQuery (by omega)) ?_
    by_cases hk0 : 0 < k
    ·have hki : (0 : Int) < (k : Int) := by omega
     have hkx : (k : Int) - 1 = ((k - 1 : Nat) : Int) := by omega
     have hkl : k - 1 < d.length := by omega
     rw [kK TDir.fName d k hk0 h] at hr
     simp only [go_sem, hki, hkx, hkl, decide_true]
     have q0 := @h; have q1 := @decide_true; have q2 := @decide_false; have q3 := @ht; have q4 := @hki; have q5 := @hkx; have q6 := @hkl; refine b7K (bD d[k].fName (by omega)) (cZ d[k].fQuery (by omega)) ?_
     cases ho : gB (TDir.fName d[k - 1]) (TDir.fName d[k])
     ·rw [ho] at hr
      simp only [go_sem, ho]
      have q0 := @h; have q1 := @decide_true; have q2 := @decide_false; have q3 := @ht; have q4 := @hki; have q5 := @hkx; have q6 := @hkl; have q7 := @ho; refine a3R ?_
      have hf : bI d = false := by
       unfold bI
       rw [hq, hr]; simp
      exact aA ⟨⟨_, rfl, by simp only [go_sem, hf]⟩, trivial⟩
     ·rw [ho] at hr
      simp only [go_sem, ho]
      have q0 := @h; have q1 := @decide_true; have q2 := @decide_false; have q3 := @ht; have q4 := @hki; have q5 := @hkx; have q6 := @hkl; have q7 := @ho; refine b4t (bD d[k].fName (by omega)) (cZ d[k].fQuery (by omega)) ?_
      cases hv : okQ d[k].fQuery
      ·rw [hv] at hr
       simp only [go_sem, hv]
       have q0 := @h; have q1 := @decide_true; have q2 := @decide_false; have q3 := @ht; have q4 := @hki; have q5 := @hkx; have q6 := @hkl; have q7 := @ho; have q8 := @hv; refine a1P ?_
       have hf : bI d = false := by
        unfold bI
        rw [hq, hr]; simp
       exact aA ⟨⟨_, rfl, by simp only [go_sem, hf]⟩, trivial⟩
      ·rw [hv] at hr
       simp only [go_sem, hv]
       have q0 := @h; have q1 := @decide_true; have q2 := @decide_false; have q3 := @ht; have q4 := @hki; have q5 := @hkx; have q6 := @hkl; have q7 := @ho; have q8 := @hv; refine a8A (bD d[k].fName (by omega)) (cZ d[k].fQuery (by omega)) ?_
       refine aF (k + 1) ?_ ?_ ?_
       ·simp only [go_sem]; simp
       ·refine ⟨h, ?_⟩
        rw [hq, hr]; simp
       ·omega
    ·have hki : ¬ (0 : Int) < (k : Int) := by omega
     rw [rF TDir.fName d k hk0] at hr
     simp only [go_sem, hki, decide_false]
     have q0 := @h; have q1 := @decide_true; have q2 := @decide_false; have q3 := @ht; have q4 := @hki; refine b2E (bD d[k].fName (by omega)) (cZ d[k].fQuery (by omega)) ?_
     cases hv : okQ d[k].fQuery
     ·rw [hv] at hr
      simp only [go_sem, hv]
      have q0 := @h; have q1 := @decide_true; have q2 := @decide_false; have q3 := @ht; have q4 := @hki; have q5 := @hv; refine b4s ?_
      have hf : bI d = false := by
       unfold bI
       rw [hq, hr]; simp
      exact aA ⟨⟨_, rfl, by simp only [go_sem, hf]⟩, trivial⟩
     ·rw [hv] at hr
      simp only [go_sem, hv]
      have q0 := @h; have q1 := @decide_true; have q2 := @decide_false; have q3 := @ht; have q4 := @hki; have q5 := @hv; refine a5j (bD d[k].fName (by omega)) (cZ d[k].fQuery (by omega)) ?_
      refine aF (k + 1) ?_ ?_ ?_
      ·simp only [go_sem]; simp
      ·refine ⟨h, ?_⟩
       rw [hq, hr]; simp
      ·omega
  ·simp only [decide_eq_false_iff_not] at h
   have e : k = d.length := by omega
   have hq' : (List.range d.length).all (jJ d) = true := by
    rw [hq, List.drop_of_length_le (by simp [e])]; rfl
   have hr : bI d = decide ((d.length : Int) ≤ 5) := by unfold bI; rw [hq']; simp only [Bool.true_and]
   have q0 := @decide_true; have q1 := @decide_false; refine lL ?_
   exact aA ⟨⟨_, rfl, by simp only [go_sem, hr, Bool.and_true, Bool.and_false, Bool.true_and, Bool.false_and, Bool.not_true, Bool.not_false, decide_true, decide_false]⟩, trivial⟩
theorem mY (l : List TField) (s : ByteArray) (hl : l.length ≤ 4300000) : FnC Tryz.prog 288 [.o (.d (.sl (l.map bG))), os s] (oi (iB s l)) := by
 generalize hg : iB s l = res
 refine ent Tryz.func288 rfl Tryz.call288 rfl (fun C => ?_); simp only [go_sem, st0, Tryz.ntmps288]
 refine aD ?_
 refine aN (α := Nat) (fun k => [(5, oi k)]) (fun k => []) (fun k => k ≤ l.length ∧ iB s (l.drop k) = res) (fun k => l.length - k) 0 (fun _ => ?_) ?_ ?_ (fun k hk => ?_)
 ·simp only [go_sem]
 ·simp only [go_sem]; simp
 ·simp [hg]
 ·simp only [go_sem]
  obtain ⟨hk, hq⟩ := hk
  refine aD ?_
  refine cnd rfl (fun h1 => ?_) (fun h1 => ?_)
  ·simp only [decide_eq_true_eq, Int.ofNat_lt] at h1
   rw [yC s l k h1] at hq
   by_cases hv : l[k].fName = s
   ·rw [if_pos hv] at hq
    have q0 := @h1; have q1 := @hv; have q2 := @decide_true; refine mG ?_
    exact aA ⟨⟨_, rfl, by simp only [go_sem, hq]⟩, trivial⟩
   ·rw [if_neg hv] at hq
    have q0 := @h1; have q1 := @hv; have q2 := @decide_false; refine mG ?_
    refine aF (k + 1) ?_ ?_ ?_
    ·simp only [go_sem]; simp
    ·exact ⟨by omega, hq⟩
    ·omega
  ·simp only [decide_eq_false_iff_not] at h1
   have e : k = l.length := by omega
   subst e
   rw [List.drop_length] at hq
   have hn : res = 0 := hq.symm
   subst hn
   refine aD ?_
   exact aA ⟨⟨_, rfl, by simp only [go_sem]⟩, trivial⟩
theorem jY (s : List TField) (n : ByteArray) (v : TValue) (hl : s.length ≤ 4300000) (hs : v.fStr.size ≤ 4300000) : FnC Tryz.prog 237 [.o (.d (.sl (s.map bG))), os n, pR v] (ob (rY s n v)) := by
 have hr : rY s n v = (iH v && (!decide (v.fKind = 0) && decide (v.fKind = iB n s))) := rfl
 refine ent Tryz.func237 rfl Tryz.call237 rfl (fun C => ?_); simp only [go_sem, st0, Tryz.ntmps237]
 have q0 := @decide_true; have q1 := @decide_false; refine xG (bL v hs) (mY s n hl) ?_
 cases hv : iH v
 ·rw [hv] at hr
  simp only [go_sem, hv]
  have q0 := @decide_true; have q1 := @decide_false; have q2 := @hv; refine mG ?_
  exact aA ⟨⟨_, rfl, by simp only [go_sem, hr, Bool.and_true, Bool.and_false, Bool.true_and, Bool.false_and, Bool.not_true, Bool.not_false, decide_true, decide_false]⟩, trivial⟩
 ·rw [hv] at hr
  simp only [go_sem, hv]
  have q0 := @decide_true; have q1 := @decide_false; have q2 := @hv; refine a6X (bL v hs) (mY s n hl) ?_
  by_cases hk : v.fKind = 0
  ·simp only [hk, decide_true] at hr
   simp only [go_sem, hk, decide_true]
   have q0 := @decide_true; have q1 := @decide_false; have q2 := @hv; have q3 := @hk; refine mR ?_
   exact aA ⟨⟨_, rfl, by simp only [go_sem, hr, Bool.and_true, Bool.and_false, Bool.true_and, Bool.false_and, Bool.not_true, Bool.not_false, decide_true, decide_false]⟩, trivial⟩
  ·simp only [hk, decide_false] at hr
   simp only [go_sem, hk, decide_false]
   have q0 := @decide_true; have q1 := @decide_false; have q2 := @hv; have q3 := @hk; refine a0f (bL v hs) (mY s n hl) ?_
   exact aA ⟨⟨_, rfl, by simp only [go_sem, hr, Bool.and_true, Bool.and_false, Bool.true_and, Bool.false_and, Bool.not_true, Bool.not_false, decide_true, decide_false]⟩, trivial⟩
theorem iQ (s : List TField) (hl : aQ s ≤ 4300000) : FnC Tryz.prog 158 [.o (.d (.sl (s.map bG)))] (ob (okSchema s)) := by
 unfold aQ at hl
 refine ent Tryz.func158 rfl Tryz.call158 rfl (fun C => ?_); simp only [go_sem, st0, Tryz.ntmps158]
 refine aD ?_
 refine aN (α := Nat) (fun k => [(3, oi k)]) (fun _ => []) (fun k => k ≤ s.length ∧ (List.range s.length).all (iY s) = ((List.range s.length).drop k).all (iY s)) (fun k => s.length - k) 0 (fun _ => ?_) ?_ ?_ (fun k hk => ?_)
 ·simp only [go_sem]
 ·simp only [go_sem]; simp
 ·simp
 ·obtain ⟨hk, hq⟩ := hk
  simp only [go_sem]
  refine aD ?_
  refine cnd rfl (fun h => ?_) (fun h => ?_)
  ·simp only [decide_eq_true_eq, Int.ofNat_lt] at h
   have h' : k < (List.range s.length).length := by simpa using h
   have hd := List.drop_eq_getElem_cons h'
   rw [hd, List.all_cons, List.getElem_range] at hq
   have hw := bC wField s h
   have hw1 : s[k].fName.size ≤ wField s[k] := by unfold wField; omega
   have hr : iY s k = (bX s[k].fName 1 && (inB s[k].fKind 1 2 && tZ TField.fName s k)) := by unfold iY; rw [List.getElem?_eq_getElem h]
   have q0 := @h; have q1 := @decide_true; have q2 := @decide_false; refine a6X (aR s[k].fName (by omega)) (bA s[k].fKind 1 2) ?_
   cases ht : bX s[k].fName 1
   ·rw [ht] at hr
    simp only [go_sem, ht]
    have q0 := @h; have q1 := @decide_true; have q2 := @decide_false; have q3 := @ht; refine mR ?_
    have hf : okSchema s = false := by
     unfold okSchema
     rw [hq, hr]; simp
    exact aA ⟨⟨_, rfl, by simp only [go_sem, hf]⟩, trivial⟩
   ·rw [ht] at hr
    simp only [go_sem, ht]
    have q0 := @h; have q1 := @decide_true; have q2 := @decide_false; have q3 := @ht; refine a0f (aR s[k].fName (by omega)) (bA s[k].fKind 1 2) ?_
    cases hb : inB s[k].fKind 1 2
    ·rw [hb] at hr
     simp only [go_sem, hb]
     have q0 := @h; have q1 := @decide_true; have q2 := @decide_false; have q3 := @ht; have q4 := @hb; refine a0M ?_
     have hf : okSchema s = false := by
      unfold okSchema
      rw [hq, hr]; simp
     exact aA ⟨⟨_, rfl, by simp only [go_sem, hf]⟩, trivial⟩
    ·rw [hb] at hr
     simp only [go_sem, hb]
     have q0 := @h; have q1 := @decide_true; have q2 := @decide_false; have q3 := @ht; have q4 := @hb; refine b2E (aR s[k].fName (by omega)) (bA s[k].fKind 1 2) ?_
     by_cases hk0 : 0 < k
     ·have hki : (0 : Int) < (k : Int) := by omega
      have hkx : (k : Int) - 1 = ((k - 1 : Nat) : Int) := by omega
      have hkl : k - 1 < s.length := by omega
      rw [kK TField.fName s k hk0 h] at hr
      simp only [go_sem, hki, hkx, hkl, decide_true]
      have q0 := @h; have q1 := @decide_true; have q2 := @decide_false; have q3 := @ht; have q4 := @hb; have q5 := @hki; have q6 := @hkx; have q7 := @hkl; refine b4t (aR s[k].fName (by omega)) (bA s[k].fKind 1 2) ?_
      cases ho : gB (TField.fName s[k - 1]) (TField.fName s[k])
      ·rw [ho] at hr
       simp only [go_sem, ho]
       have q0 := @h; have q1 := @decide_true; have q2 := @decide_false; have q3 := @ht; have q4 := @hb; have q5 := @hki; have q6 := @hkx; have q7 := @hkl; have q8 := @ho; refine a1P ?_
       have hf : okSchema s = false := by
        unfold okSchema
        rw [hq, hr]; simp
       exact aA ⟨⟨_, rfl, by simp only [go_sem, hf]⟩, trivial⟩
      ·rw [ho] at hr
       simp only [go_sem, ho]
       have q0 := @h; have q1 := @decide_true; have q2 := @decide_false; have q3 := @ht; have q4 := @hb; have q5 := @hki; have q6 := @hkx; have q7 := @hkl; have q8 := @ho; refine a8A (aR s[k].fName (by omega)) (bA s[k].fKind 1 2) ?_
       refine aF (k + 1) ?_ ?_ ?_
       ·simp only [go_sem]; simp
       ·refine ⟨h, ?_⟩
        rw [hq, hr]; simp
       ·omega
     ·have hki : ¬ (0 : Int) < (k : Int) := by omega
      rw [rF TField.fName s k hk0] at hr
      simp only [go_sem, hki, decide_false]
      have q0 := @h; have q1 := @decide_true; have q2 := @decide_false; have q3 := @ht; have q4 := @hb; have q5 := @hki; refine a5j (aR s[k].fName (by omega)) (bA s[k].fKind 1 2) ?_
      refine aF (k + 1) ?_ ?_ ?_
      ·simp only [go_sem]; simp
      ·refine ⟨h, ?_⟩
       rw [hq, hr]; simp
      ·omega
  ·simp only [decide_eq_false_iff_not] at h
   have e : k = s.length := by omega
   have hq' : (List.range s.length).all (iY s) = true := by
    rw [hq, List.drop_of_length_le (by simp [e])]; rfl
   have hr : okSchema s = decide ((s.length : Int) ≤ 5) := by unfold okSchema; rw [hq']; simp only [Bool.true_and]
   have q0 := @decide_true; have q1 := @decide_false; refine lL ?_
   exact aA ⟨⟨_, rfl, by simp only [go_sem, hr, Bool.and_true, Bool.and_false, Bool.true_and, Bool.false_and, Bool.not_true, Bool.not_false, decide_true, decide_false]⟩, trivial⟩
theorem fG (s : List TField) (f : TFile) (hl : aQ s ≤ 4300000) (hf : wFile f ≤ 4300000) : FnC Tryz.prog 157 [.o (.d (.sl (s.map bG))), dC f] (ob (eP s f)) := by
 unfold aQ at hl
 unfold wFile eB at hf
 refine ent Tryz.func157 rfl Tryz.call157 rfl (fun C => ?_); simp only [go_sem, st0, Tryz.ntmps157]
 refine aD ?_
 refine aN (α := Nat) (fun k => [(5, oi k)]) (fun _ => []) (fun k => k ≤ f.fAttrs.length ∧ (List.range f.fAttrs.length).all (jX s f.fAttrs) = ((List.range f.fAttrs.length).drop k).all (jX s f.fAttrs)) (fun k => f.fAttrs.length - k) 0 (fun _ => ?_) ?_ ?_ (fun k hk => ?_)
 ·simp only [go_sem]
 ·simp only [go_sem]; simp
 ·simp
 ·obtain ⟨hk, hq⟩ := hk
  simp only [go_sem]
  refine aD ?_
  refine cnd rfl (fun h => ?_) (fun h => ?_)
  ·simp only [decide_eq_true_eq, Int.ofNat_lt] at h
   have h' : k < (List.range f.fAttrs.length).length := by simpa using h
   have hd := List.drop_eq_getElem_cons h'
   rw [hd, List.all_cons, List.getElem_range] at hq
   have hw := bC wAttr f.fAttrs h
   have hw1 : f.fAttrs[k].fName.size + f.fAttrs[k].fValue.fStr.size ≤ wAttr f.fAttrs[k] := by unfold wAttr gX; omega
   have hr : jX s f.fAttrs k = (rY s f.fAttrs[k].fName f.fAttrs[k].fValue && tZ TAttr.fName f.fAttrs k) := by unfold jX; rw [List.getElem?_eq_getElem h]; exact Bool.and_comm _ _
   have q0 := @h; have q1 := @decide_true; have q2 := @decide_false; refine nP (jY s f.fAttrs[k].fName f.fAttrs[k].fValue (by omega) (by omega)) ?_
   cases hm : rY s f.fAttrs[k].fName f.fAttrs[k].fValue
   ·rw [hm] at hr
    simp only [go_sem, hm]
    have q0 := @h; have q1 := @decide_true; have q2 := @decide_false; have q3 := @hm; refine mR ?_
    have hf : eP s f = false := by
     unfold eP
     rw [hq, hr]; simp
    exact aA ⟨⟨_, rfl, by simp only [go_sem, hf]⟩, trivial⟩
   ·rw [hm] at hr
    simp only [go_sem, hm]
    have q0 := @h; have q1 := @decide_true; have q2 := @decide_false; have q3 := @hm; refine a1O (jY s f.fAttrs[k].fName f.fAttrs[k].fValue (by omega) (by omega)) ?_
    by_cases hk0 : 0 < k
    ·have hki : (0 : Int) < (k : Int) := by omega
     have hkx : (k : Int) - 1 = ((k - 1 : Nat) : Int) := by omega
     have hkl : k - 1 < f.fAttrs.length := by omega
     rw [kK TAttr.fName f.fAttrs k hk0 h] at hr
     simp only [go_sem, hki, hkx, hkl, decide_true]
     have q0 := @h; have q1 := @decide_true; have q2 := @decide_false; have q3 := @hm; have q4 := @hki; have q5 := @hkx; have q6 := @hkl; refine b6e (jY s f.fAttrs[k].fName f.fAttrs[k].fValue (by omega) (by omega)) ?_
     cases ho : gB (TAttr.fName f.fAttrs[k - 1]) (TAttr.fName f.fAttrs[k])
     ·rw [ho] at hr
      simp only [go_sem, ho]
      have q0 := @h; have q1 := @decide_true; have q2 := @decide_false; have q3 := @hm; have q4 := @hki; have q5 := @hkx; have q6 := @hkl; have q7 := @ho; refine a3R ?_
      have hf : eP s f = false := by
       unfold eP
       rw [hq, hr]; simp
      exact aA ⟨⟨_, rfl, by simp only [go_sem, hf]⟩, trivial⟩
     ·rw [ho] at hr
      simp only [go_sem, ho]
      have q0 := @h; have q1 := @decide_true; have q2 := @decide_false; have q3 := @hm; have q4 := @hki; have q5 := @hkx; have q6 := @hkl; have q7 := @ho; refine a2R (jY s f.fAttrs[k].fName f.fAttrs[k].fValue (by omega) (by omega)) ?_
      refine aF (k + 1) ?_ ?_ ?_
      ·simp only [go_sem]; simp
      ·refine ⟨h, ?_⟩
       rw [hq, hr]; simp
      ·omega
    ·have hki : ¬ (0 : Int) < (k : Int) := by omega
     rw [rF TAttr.fName f.fAttrs k hk0] at hr
     simp only [go_sem, hki, decide_false]
     have q0 := @h; have q1 := @decide_true; have q2 := @decide_false; have q3 := @hm; have q4 := @hki; refine a2P (jY s f.fAttrs[k].fName f.fAttrs[k].fValue (by omega) (by omega)) ?_
     refine aF (k + 1) ?_ ?_ ?_
     ·simp only [go_sem]; simp
     ·refine ⟨h, ?_⟩
      rw [hq, hr]; simp
     ·omega
  ·simp only [decide_eq_false_iff_not] at h
   have e : k = f.fAttrs.length := by omega
   have hq' : (List.range f.fAttrs.length).all (jX s f.fAttrs) = true := by
    rw [hq, List.drop_of_length_le (by simp [e])]; rfl
   have hr : eP s f = (okSchema s && (inB f.fID 1 60 && (inB f.fOwner 0 2 && inB f.fLink 0 60))) := by unfold eP; rw [hq']; simp only [Bool.true_and]; cases okSchema s <;> simp
   have q0 := @decide_true; have q1 := @decide_false; refine b4r (bA f.fID 1 60) (bA f.fOwner 0 2) (bA f.fLink 0 60) (iQ s (by unfold aQ; omega)) ?_
   cases h0 : okSchema s
   ·rw [h0] at hr
    simp only [go_sem, h0]
    have q0 := @decide_true; have q1 := @decide_false; have q2 := @h0; refine mG ?_
    exact aA ⟨⟨_, rfl, by simp only [go_sem, hr, Bool.and_true, Bool.and_false, Bool.true_and, Bool.false_and, Bool.not_true, Bool.not_false, decide_true, decide_false]⟩, trivial⟩
   ·rw [h0] at hr
    simp only [go_sem, h0]
    have q0 := @decide_true; have q1 := @decide_false; have q2 := @h0; refine b6d (bA f.fID 1 60) (bA f.fOwner 0 2) (bA f.fLink 0 60) (iQ s (by unfold aQ; omega)) ?_
    cases h1 : inB f.fID 1 60
    ·rw [h1] at hr
     simp only [go_sem, h1]
     have q0 := @decide_true; have q1 := @decide_false; have q2 := @h0; have q3 := @h1; refine mR ?_
     exact aA ⟨⟨_, rfl, by simp only [go_sem, hr, Bool.and_true, Bool.and_false, Bool.true_and, Bool.false_and, Bool.not_true, Bool.not_false, decide_true, decide_false]⟩, trivial⟩
    ·rw [h1] at hr
     simp only [go_sem, h1]
     have q0 := @decide_true; have q1 := @decide_false; have q2 := @h0; have q3 := @h1; refine b7J (bA f.fID 1 60) (bA f.fOwner 0 2) (bA f.fLink 0 60) (iQ s (by unfold aQ; omega)) ?_
     cases h2 : inB f.fOwner 0 2
     ·rw [h2] at hr
      simp only [go_sem, h2]
      have q0 := @decide_true; have q1 := @decide_false; have q2 := @h0; have q3 := @h1; have q4 := @h2; refine a0M ?_
      exact aA ⟨⟨_, rfl, by simp only [go_sem, hr, Bool.and_true, Bool.and_false, Bool.true_and, Bool.false_and, Bool.not_true, Bool.not_false, decide_true, decide_false]⟩, trivial⟩
     ·rw [h2] at hr
      simp only [go_sem, h2]
      have q0 := @decide_true; have q1 := @decide_false; have q2 := @h0; have q3 := @h1; have q4 := @h2; refine b8P (bA f.fID 1 60) (bA f.fOwner 0 2) (bA f.fLink 0 60) (iQ s (by unfold aQ; omega)) ?_
      exact aA ⟨⟨_, rfl, by simp only [go_sem, hr, Bool.and_true, Bool.and_false, Bool.true_and, Bool.false_and, Bool.not_true, Bool.not_false, decide_true, decide_false]⟩, trivial⟩
theorem bJ (x : TStore) (hx : aL x ≤ 4300000) : FnC Tryz.prog 80 [dJ x] (ob (bS x)) := by
 unfold aL aQ bU at hx
 refine ent Tryz.func80 rfl Tryz.call80 rfl (fun C => ?_); simp only [go_sem, st0, Tryz.ntmps80]
 refine aD ?_
 refine aN (α := Nat) (fun k => [(3, oi k)]) (fun _ => []) (fun k => k ≤ x.fFiles.length ∧ (List.range x.fFiles.length).all (iJ x) = ((List.range x.fFiles.length).drop k).all (iJ x)) (fun k => x.fFiles.length - k) 0 (fun _ => ?_) ?_ ?_ (fun k hk => ?_)
 ·simp only [go_sem]
 ·simp only [go_sem]; simp
 ·simp
 ·obtain ⟨hk, hq⟩ := hk
  simp only [go_sem]
  refine aD ?_
  refine cnd rfl (fun h => ?_) (fun h => ?_)
  ·simp only [decide_eq_true_eq, Int.ofNat_lt] at h
   have h' : k < (List.range x.fFiles.length).length := by simpa using h
   have hd := List.drop_eq_getElem_cons h'
   rw [hd, List.all_cons, List.getElem_range] at hq
   have hw := bC wFile x.fFiles h
   have hr : iJ x k = (eP x.fSchema x.fFiles[k] && (!decide (x.fNextID ≤ x.fFiles[k].fID) && a7s x.fFiles k)) := by unfold iJ; rw [List.getElem?_eq_getElem h]
   have q0 := @h; have q1 := @decide_true; have q2 := @decide_false; refine nP (fG x.fSchema x.fFiles[k] (by unfold aQ; omega) (by omega)) ?_
   cases hm : eP x.fSchema x.fFiles[k]
   ·rw [hm] at hr
    simp only [go_sem, hm]
    have q0 := @h; have q1 := @decide_true; have q2 := @decide_false; have q3 := @hm; refine mR ?_
    have hf : bS x = false := by
     unfold bS
     rw [hq, hr]; simp
    exact aA ⟨⟨_, rfl, by simp only [go_sem, hf]⟩, trivial⟩
   ·rw [hm] at hr
    simp only [go_sem, hm]
    have q0 := @h; have q1 := @decide_true; have q2 := @decide_false; have q3 := @hm; refine a1O (fG x.fSchema x.fFiles[k] (by unfold aQ; omega) (by omega)) ?_
    by_cases hn : x.fNextID ≤ x.fFiles[k].fID
    ·simp only [hn, decide_true] at hr
     simp only [go_sem, hn, decide_true]
     have q0 := @h; have q1 := @decide_true; have q2 := @decide_false; have q3 := @hm; have q4 := @hn; refine a0M ?_
     have hf : bS x = false := by
      unfold bS
      rw [hq, hr]; simp
     exact aA ⟨⟨_, rfl, by simp only [go_sem, hf]⟩, trivial⟩
    ·simp only [hn, decide_false] at hr
     simp only [go_sem, hn, decide_false]
     have q0 := @h; have q1 := @decide_true; have q2 := @decide_false; have q3 := @hm; have q4 := @hn; refine a2P (fG x.fSchema x.fFiles[k] (by unfold aQ; omega) (by omega)) ?_
     by_cases hk0 : 0 < k
     ·have hki : (0 : Int) < (k : Int) := by omega
      have hkx : (k : Int) - 1 = ((k - 1 : Nat) : Int) := by omega
      have hkl : k - 1 < x.fFiles.length := by omega
      rw [qK x.fFiles k hk0 h] at hr
      simp only [go_sem, hki, hkx, hkl, decide_true]
      have q0 := @h; have q1 := @decide_true; have q2 := @decide_false; have q3 := @hm; have q4 := @hn; have q5 := @hki; have q6 := @hkx; have q7 := @hkl; refine a2R (fG x.fSchema x.fFiles[k] (by unfold aQ; omega) (by omega)) ?_
      by_cases ho : x.fFiles[k].fID ≤ x.fFiles[k - 1].fID
      ·simp only [ho, decide_true] at hr
       simp only [go_sem, ho, decide_true]
       have q0 := @h; have q1 := @decide_true; have q2 := @decide_false; have q3 := @hm; have q4 := @hn; have q5 := @hki; have q6 := @hkx; have q7 := @hkl; have q8 := @ho; refine a1P ?_
       have hf : bS x = false := by
        unfold bS
        rw [hq, hr]; simp
       exact aA ⟨⟨_, rfl, by simp only [go_sem, hf]⟩, trivial⟩
      ·simp only [ho, decide_false] at hr
       simp only [go_sem, ho, decide_false]
       have q0 := @h; have q1 := @decide_true; have q2 := @decide_false; have q3 := @hm; have q4 := @hn; have q5 := @hki; have q6 := @hkx; have q7 := @hkl; have q8 := @ho; refine b2F (fG x.fSchema x.fFiles[k] (by unfold aQ; omega) (by omega)) ?_
       refine aF (k + 1) ?_ ?_ ?_
       ·simp only [go_sem]; simp
       ·refine ⟨h, ?_⟩
        rw [hq, hr]; simp
       ·omega
     ·have hki : ¬ (0 : Int) < (k : Int) := by omega
      rw [a4F x.fFiles k hk0] at hr
      simp only [go_sem, hki, decide_false]
      have q0 := @h; have q1 := @decide_true; have q2 := @decide_false; have q3 := @hm; have q4 := @hn; have q5 := @hki; refine a2Q (fG x.fSchema x.fFiles[k] (by unfold aQ; omega) (by omega)) ?_
      refine aF (k + 1) ?_ ?_ ?_
      ·simp only [go_sem]; simp
      ·refine ⟨h, ?_⟩
       rw [hq, hr]; simp
      ·omega
  ·simp only [decide_eq_false_iff_not] at h
   have e : k = x.fFiles.length := by omega
   have hq' : (List.range x.fFiles.length).all (iJ x) = true := by
    rw [hq, List.drop_of_length_le (by simp [e])]; rfl
   have hr : bS x = (okSchema x.fSchema && (decide ((x.fFiles.length : Int) ≤ 12) && inB x.fNextID 1 61)) := by unfold bS; rw [hq']; simp only [Bool.true_and]
   have q0 := @decide_true; have q1 := @decide_false; refine xG (iQ x.fSchema (by unfold aQ; omega)) (bA x.fNextID 1 61) ?_
   cases h0 : okSchema x.fSchema
   ·rw [h0] at hr
    simp only [go_sem, h0]
    have q0 := @decide_true; have q1 := @decide_false; have q2 := @h0; refine mG ?_
    exact aA ⟨⟨_, rfl, by simp only [go_sem, hr, Bool.and_true, Bool.and_false, Bool.true_and, Bool.false_and, Bool.not_true, Bool.not_false, decide_true, decide_false]⟩, trivial⟩
   ·rw [h0] at hr
    simp only [go_sem, h0]
    have q0 := @decide_true; have q1 := @decide_false; have q2 := @h0; refine a6X (iQ x.fSchema (by unfold aQ; omega)) (bA x.fNextID 1 61) ?_
    by_cases h1 : (x.fFiles.length : Int) ≤ 12
    ·simp only [h1, decide_true] at hr
     simp only [go_sem, h1, decide_true]
     have q0 := @decide_true; have q1 := @decide_false; have q2 := @h0; have q3 := @h1; refine a0f (iQ x.fSchema (by unfold aQ; omega)) (bA x.fNextID 1 61) ?_
     exact aA ⟨⟨_, rfl, by simp only [go_sem, hr, Bool.and_true, Bool.and_false, Bool.true_and, Bool.false_and, Bool.not_true, Bool.not_false, decide_true, decide_false]⟩, trivial⟩
    ·simp only [h1, decide_false] at hr
     simp only [go_sem, h1, decide_false]
     have q0 := @decide_true; have q1 := @decide_false; have q2 := @h0; have q3 := @h1; refine mR ?_
     exact aA ⟨⟨_, rfl, by simp only [go_sem, hr, Bool.and_true, Bool.and_false, Bool.true_and, Bool.false_and, Bool.not_true, Bool.not_false, decide_true, decide_false]⟩, trivial⟩
theorem iK (d : List TDir) (hd : aP d ≤ 4300000) : FnC Tryz.prog 155 [.o (.d (.sl (d.map aM)))] (ob (bI d)) := by
 unfold aP at hd
 refine ent Tryz.func155 rfl Tryz.call155 rfl (fun C => ?_); simp only [go_sem, st0, Tryz.ntmps155]
 refine aD ?_
 refine aN (α := Nat) (fun k => [(3, oi k)]) (fun _ => []) (fun k => k ≤ d.length ∧ (List.range d.length).all (jJ d) = ((List.range d.length).drop k).all (jJ d)) (fun k => d.length - k) 0 (fun _ => ?_) ?_ ?_ (fun k hk => ?_)
 ·simp only [go_sem]
 ·simp only [go_sem]; simp
 ·simp
 ·obtain ⟨hk, hq⟩ := hk
  simp only [go_sem]
  refine aD ?_
  refine cnd rfl (fun h => ?_) (fun h => ?_)
  ·simp only [decide_eq_true_eq, Int.ofNat_lt] at h
   have h' : k < (List.range d.length).length := by simpa using h
   have hd := List.drop_eq_getElem_cons h'
   rw [hd, List.all_cons, List.getElem_range] at hq
   have hw := bC wDir d h
   have hw1 : d[k].fName.size + bQ d[k].fQuery ≤ wDir d[k] := by unfold wDir; omega
   have hr : jJ d k = (bX d[k].fName 6 && (okQ d[k].fQuery && tZ TDir.fName d k)) := by unfold jJ; rw [List.getElem?_eq_getElem h, Bool.and_comm (okQ d[k].fQuery)]
   have q0 := @h; have q1 := @decide_true; have q2 := @decide_false; refine a6X (bM d[k].fName (by omega)) (dD d[k].fQuery (by omega)) ?_
   cases ht : bX d[k].fName 6
   ·rw [ht] at hr
    simp only [go_sem, ht]
    have q0 := @h; have q1 := @decide_true; have q2 := @decide_false; have q3 := @ht; refine mR ?_
    have hf : bI d = false := by
     unfold bI
     rw [hq, hr]; simp
    exact aA ⟨⟨_, rfl, by simp only [go_sem, hf]⟩, trivial⟩
   ·rw [ht] at hr
    simp only [go_sem, ht]
    have q0 := @h; have q1 := @decide_true; have q2 := @decide_false; have q3 := @ht; refine a0f (bM d[k].fName (by omega)) (dD d[k].fQuery (by omega)) ?_
    cases hv : okQ d[k].fQuery
    ·rw [hv] at hr
     simp only [go_sem, hv]
     have q0 := @h; have q1 := @decide_true; have q2 := @decide_false; have q3 := @ht; have q4 := @hv; refine a0M ?_
     have hf : bI d = false := by
      unfold bI
      rw [hq, hr]; simp
     exact aA ⟨⟨_, rfl, by simp only [go_sem, hf]⟩, trivial⟩
    ·rw [hv] at hr
     simp only [go_sem, hv]
     have q0 := @h; have q1 := @decide_true; have q2 := @decide_false; have q3 := @ht; have q4 := @hv; refine b2E (bM d[k].fName (by omega)) (dD d[k].fQuery (by omega)) ?_
     by_cases hk0 : 0 < k
     ·have hki : (0 : Int) < (k : Int) := by omega
      have hkx : (k : Int) - 1 = ((k - 1 : Nat) : Int) := by omega
      have hkl : k - 1 < d.length := by omega
      rw [kK TDir.fName d k hk0 h] at hr
      simp only [go_sem, hki, hkx, hkl, decide_true]
      have q0 := @h; have q1 := @decide_true; have q2 := @decide_false; have q3 := @ht; have q4 := @hv; have q5 := @hki; have q6 := @hkx; have q7 := @hkl; refine b4t (bM d[k].fName (by omega)) (dD d[k].fQuery (by omega)) ?_
      cases ho : gB (TDir.fName d[k - 1]) (TDir.fName d[k])
      ·rw [ho] at hr
       simp only [go_sem, ho]
       have q0 := @h; have q1 := @decide_true; have q2 := @decide_false; have q3 := @ht; have q4 := @hv; have q5 := @hki; have q6 := @hkx; have q7 := @hkl; have q8 := @ho; refine a1P ?_
       have hf : bI d = false := by
        unfold bI
        rw [hq, hr]; simp
       exact aA ⟨⟨_, rfl, by simp only [go_sem, hf]⟩, trivial⟩
      ·rw [ho] at hr
       simp only [go_sem, ho]
       have q0 := @h; have q1 := @decide_true; have q2 := @decide_false; have q3 := @ht; have q4 := @hv; have q5 := @hki; have q6 := @hkx; have q7 := @hkl; have q8 := @ho; refine a8A (bM d[k].fName (by omega)) (dD d[k].fQuery (by omega)) ?_
       refine aF (k + 1) ?_ ?_ ?_
       ·simp only [go_sem]; simp
       ·refine ⟨h, ?_⟩
        rw [hq, hr]; simp
       ·omega
     ·have hki : ¬ (0 : Int) < (k : Int) := by omega
      rw [rF TDir.fName d k hk0] at hr
      simp only [go_sem, hki, decide_false]
      have q0 := @h; have q1 := @decide_true; have q2 := @decide_false; have q3 := @ht; have q4 := @hv; have q5 := @hki; refine a5j (bM d[k].fName (by omega)) (dD d[k].fQuery (by omega)) ?_
      refine aF (k + 1) ?_ ?_ ?_
      ·simp only [go_sem]; simp
      ·refine ⟨h, ?_⟩
       rw [hq, hr]; simp
      ·omega
  ·simp only [decide_eq_false_iff_not] at h
   have e : k = d.length := by omega
   have hq' : (List.range d.length).all (jJ d) = true := by
    rw [hq, List.drop_of_length_le (by simp [e])]; rfl
   have hr : bI d = decide ((d.length : Int) ≤ 5) := by unfold bI; rw [hq']; simp only [Bool.true_and]
   have q0 := @decide_true; have q1 := @decide_false; refine lL ?_
   exact aA ⟨⟨_, rfl, by simp only [go_sem, hr, Bool.and_true, Bool.and_false, Bool.true_and, Bool.false_and, Bool.not_true, Bool.not_false, decide_true, decide_false]⟩, trivial⟩
end Go.Proofs.YtddimbdeggomaaaGreat
end
section
namespace Go.Proofs
open Go.Shelf
def Tryz.laysSortStr_ren : Go.Shelf.Ren := ⟨fun | 190 => 273 | 125 => 306 | 258 => 305 | 128 => 327 | 129 => 328 | 302 => 318 | 303 => 319 | 304 => 320 | 305 => 321 | 306 => 322 | 307 => 323 | 308 => 324 | 309 => 325 | 310 => 326 | 333 => 333 | 329 => 334 | 330 => 335 | 334 => 336 | 335 => 337 | 336 => 338 | 344 => 339 | n => n, fun | 31 => 28 | 9 => 9 | 3 => 3 | 46 => 279 | 0 => 0 | 51 => 296 | 53 => 298 | 4 => 4 | 183 => 289 | 182 => 288 | 131 => 283 | 5 => 5 | 218 => 301 | 222 => 305 | 228 => 307 | 229 => 308 | n => n, fun | n => n⟩
theorem Tryz.laysSortStr : Go.Proofs.Lays.n190 Tryz.prog Tryz.laysSortStr_ren := {
 mixed := by kernel_rfl
 f125 := Tryz.func306.trans (congrArg some (by kernel_rfl))
 f128 := Tryz.func327.trans (congrArg some (by kernel_rfl))
 f129 := Tryz.func328.trans (congrArg some (by kernel_rfl))
 f190 := Tryz.func273.trans (congrArg some (by kernel_rfl))
 f258 := Tryz.func305.trans (congrArg some (by kernel_rfl))
 f302 := Tryz.func318.trans (congrArg some (by kernel_rfl))
 f303 := Tryz.func319.trans (congrArg some (by kernel_rfl))
 f304 := Tryz.func320.trans (congrArg some (by kernel_rfl))
 f305 := Tryz.func321.trans (congrArg some (by kernel_rfl))
 f306 := Tryz.func322.trans (congrArg some (by kernel_rfl))
 f307 := Tryz.func323.trans (congrArg some (by kernel_rfl))
 f308 := Tryz.func324.trans (congrArg some (by kernel_rfl))
 f309 := Tryz.func325.trans (congrArg some (by kernel_rfl))
 f310 := Tryz.func326.trans (congrArg some (by kernel_rfl))
 f329 := Tryz.func334.trans (congrArg some (by kernel_rfl))
 f330 := Tryz.func335.trans (congrArg some (by kernel_rfl))
 f333 := Tryz.func333.trans (congrArg some (by kernel_rfl))
 f334 := Tryz.func336.trans (congrArg some (by kernel_rfl))
 f335 := Tryz.func337.trans (congrArg some (by kernel_rfl))
 f336 := Tryz.func338.trans (congrArg some (by kernel_rfl))
 f344 := Tryz.func339.trans (congrArg some (by kernel_rfl))
 t0 := Tryz.underlying0
 a0 := Tryz.isAgg0
 z0 := Tryz.sizeOf0
 v0 := Tryz.zeroValue0
 t3 := Tryz.underlying3
 a3 := Tryz.isAgg3
 z3 := Tryz.sizeOf3
 v3 := Tryz.zeroValue3
 t4 := Tryz.underlying4
 a4 := Tryz.isAgg4
 z4 := Tryz.sizeOf4
 v4 := Tryz.zeroValue4
 t5 := Tryz.underlying5
 a5 := Tryz.isAgg5
 z5 := Tryz.sizeOf5
 v5 := Tryz.zeroValue5
 t9 := Tryz.underlying9
 a9 := Tryz.isAgg9
 z9 := Tryz.sizeOf9
 v9 := Tryz.zeroValue9
 t31 := Tryz.underlying28
 a31 := Tryz.isAgg28
 z31 := Tryz.sizeOf28
 v31 := Tryz.zeroValue28
 t46 := Tryz.underlying279
 a46 := Tryz.isAgg279
 z46 := Tryz.sizeOf279
 v46 := Tryz.zeroValue279
 t51 := Tryz.underlying296
 a51 := Tryz.isAgg296
 z51 := Tryz.sizeOf296
 v51 := Tryz.zeroValue296
 t53 := Tryz.underlying298
 a53 := Tryz.isAgg298
 z53 := Tryz.sizeOf298
 v53 := Tryz.zeroValue298
 t131 := Tryz.underlying283
 a131 := Tryz.isAgg283
 z131 := Tryz.sizeOf283
 v131 := Tryz.zeroValue283
 t182 := Tryz.underlying288
 a182 := Tryz.isAgg288
 z182 := Tryz.sizeOf288
 v182 := Tryz.zeroValue288
 t183 := Tryz.underlying289
 a183 := Tryz.isAgg289
 z183 := Tryz.sizeOf289
 v183 := Tryz.zeroValue289
 t218 := Tryz.underlying301
 a218 := Tryz.isAgg301
 z218 := Tryz.sizeOf301
 v218 := Tryz.zeroValue301
 t222 := Tryz.underlying305
 a222 := Tryz.isAgg305
 z222 := Tryz.sizeOf305
 v222 := Tryz.zeroValue305
 t228 := Tryz.underlying307
 a228 := Tryz.isAgg307
 z228 := Tryz.sizeOf307
 v228 := Tryz.zeroValue307
 t229 := Tryz.underlying308
 a229 := Tryz.isAgg308
 z229 := Tryz.sizeOf308
 v229 := Tryz.zeroValue308 }
def Tryz.laysCompactStr_ren : Go.Shelf.Ren := ⟨fun | 194 => 274 | n => n, fun | 31 => 28 | 9 => 9 | 3 => 3 | 4 => 4 | 0 => 0 | n => n, fun | n => n⟩
theorem Tryz.laysCompactStr : Go.Proofs.Lays.n194 Tryz.prog Tryz.laysCompactStr_ren := {
 mixed := by kernel_rfl
 f194 := Tryz.func274.trans (congrArg some (by kernel_rfl))
 t0 := Tryz.underlying0
 a0 := Tryz.isAgg0
 z0 := Tryz.sizeOf0
 v0 := Tryz.zeroValue0
 t3 := Tryz.underlying3
 a3 := Tryz.isAgg3
 z3 := Tryz.sizeOf3
 v3 := Tryz.zeroValue3
 t4 := Tryz.underlying4
 a4 := Tryz.isAgg4
 z4 := Tryz.sizeOf4
 v4 := Tryz.zeroValue4
 t9 := Tryz.underlying9
 a9 := Tryz.isAgg9
 z9 := Tryz.sizeOf9
 v9 := Tryz.zeroValue9
 t31 := Tryz.underlying28
 a31 := Tryz.isAgg28
 z31 := Tryz.sizeOf28
 v31 := Tryz.zeroValue28 }
end Go.Proofs
end
section
namespace Go.Proofs.YtddimbdeggomaaaGreat
open Go Go.Sx Go.RowKit Go.Proofs
def c0h (l : List Int) : List Int := l.mergeSort fun x y => decide (x ≤ y)
theorem oF {α : Type} [Inhabited α] [DecidableEq α] (d : Array α) : ∀ m, (Lib.compactUpTo d m).length ≤ m
 | 0 => by simp [Lib.compactUpTo]
 | m + 1 => by
  have := oF d m
  rw [Lib.compactUpTo_succ, List.length_append]
  split <;> simp <;> omega
def c0i (l : List Int) : List Int := Lib.compact l
def bl (s : ByteArray) : List UInt8 := s.data.toList
def lb (l : List UInt8) : ByteArray := ⟨l.toArray⟩
theorem b4Y (l : List UInt8) : bl (lb l) = l := rfl
theorem a9e (s : ByteArray) : lb (bl s) = s := by cases s; simp [lb, bl]
def oJ (l : List (List UInt8)) : List (List UInt8) := l.mergeSort fun x y => decide (x ≤ y)
def uH (l : List ByteArray) : List ByteArray := (oJ (l.map bl)).map lb
def a6n (l : List ByteArray) : List ByteArray := (Lib.compact (l.map bl)).map lb
theorem a2a (l : List ByteArray) : (uH l).length = l.length := by simp [uH, oJ, List.length_mergeSort]
theorem a7u (l : List ByteArray) : l.map bW = rR Go.Proofs.encStr (l.map bl) := by
 simp only [rR, List.map_map]
 refine List.map_congr_left fun s _ => ?_
 have h := a9e s
 simp only [lb] at h
 simp only [Function.comp, bW, Go.Proofs.encStr, h]
theorem b1Q (l : List (List UInt8)) : (l.map lb).map bW = rR Go.Proofs.encStr l := by
 rw [a7u, List.map_map]
 congr 1
 simp [Function.comp_def, b4Y]
theorem zO (x : List UInt8) : scalar (Go.Proofs.encStr x) = true := rfl
theorem a4I (l : List ByteArray) (hl : l.length ≤ 4611686018427387903) : FnI Tryz.prog 273 9 1 (l.map bW) [] true ((uH l).map bW) := by
 refine ⟨Tryz.call273, fun V w y S vs hm hrow hnd hlt hargs => ?_⟩
 have hvs : vs = [] := by have := hargs.1; simpa using this
 subst hvs
 rw [uH, b1Q]
 rw [a7u] at hrow
 rcases scal_down (e := Go.Proofs.encStr) hrow with ⟨⟨ao, rfl⟩, hn, rfl⟩ | ⟨b, cap, c, rfl, h1, h2, h3, h4, h5, h6, rfl⟩
 ·refine (Any.slices_Sort_string_none Tryz.laysSortStr ao 0 w).mono ?_
  rintro e w' ⟨rfl, rfl⟩
  exact ⟨_, rfl, fun _ => rfl, ⟨⟨rfl, rfl, rfl, Nat.le_refl _, fun _ _ _ => rfl⟩, [], (by rw [hn] at hrow ⊢; simpa [oJ] using hrow), hnd, fun b hb => .inl hb, fun _ => rfl⟩⟩
 ·have hb : b < w.heap.size := (Array.getElem?_eq_some_iff.1 h3).1
  refine (Any.slices_Sort_string Tryz.laysSortStr b 0 cap (l.map bl) w h5 hb (by simp; omega)).mono ?_
  rintro e w' ⟨rfl, n, os, rfl⟩
  have hsl : (oJ (l.map bl)).length = (l.map bl).length := by simp [oJ, List.length_mergeSort]
  have hup := b1A (e := Go.Proofs.encStr) (l := oJ (l.map bl)) (d := (oJ (l.map bl)).toArray) zO h3 h4 h2 (by simp only [List.size_toArray, hsl]; exact h1) rfl (List.prefix_refl _) h6 (n := n) (os := os)
  rw [hsl] at hup
  exact ⟨_, rfl, fun _ => rfl, ⟨hup.2, [b], hup.1, hnd, fun b hb => .inl hb, fun _ => rfl⟩⟩
theorem zP (l : List ByteArray) (hl : l.length ≤ 4611686018427387903) : FnI Tryz.prog 274 9 1 (l.map bW) [] false ((a6n l).map bW) := by
 refine ⟨Tryz.call274, fun V w y S vs hm hrow hnd hlt hargs => ?_⟩
 have hvs : vs = [] := by have := hargs.1; simpa using this
 subst hvs
 rw [a6n, b1Q]
 rw [a7u] at hrow
 rcases scal_down (e := Go.Proofs.encStr) hrow with ⟨⟨ao, rfl⟩, hn, rfl⟩ | ⟨b, cap, c, rfl, h1, h2, h3, h4, h5, h6, rfl⟩
 ·refine (Any.slices_Compact_string_empty Tryz.laysCompactStr ao 0 w).mono ?_
  rintro e w' ⟨rfl, rfl⟩
  exact ⟨_, rfl, fun h => (by cases h), ⟨⟨rfl, rfl, rfl, Nat.le_refl _, fun _ _ _ => rfl⟩, [], (by rw [hn] at hrow ⊢; exact hrow), hnd, fun b hb => .inl hb, fun _ => rfl⟩⟩
 ·have hb : b < w.heap.size := (Array.getElem?_eq_some_iff.1 h3).1
  refine (Any.slices_Compact_string Tryz.laysCompactStr b 0 cap (l.map bl) w h5 (by simp; omega) h1).mono ?_
  rintro e w' ⟨rfl, n, rfl⟩
  have hle : (Lib.compact (l.map bl)).length ≤ (l.map bl).length := oF _ _
  have hup := b1A (e := Go.Proofs.encStr) (l := Lib.compact (l.map bl)) (d := (Lib.compact (l.map bl) ++ List.replicate ((l.map bl).length - (Lib.compact (l.map bl)).length) []).toArray) (w' := Sort.putRow Go.Proofs.encStr (Sort.ahead w n) b 0 (Lib.compact (l.map bl) ++ List.replicate ((l.map bl).length - (Lib.compact (l.map bl)).length) []).toArray) zO h3 h4 h2 (by simp only [List.size_toArray, List.length_append, List.length_replicate]; omega) (by rw [Sort.grow_empty]) (by simp) h6 (n := n) (os := #[])
  exact ⟨_, rfl, fun h => (by cases h), ⟨hup.2, [b], hup.1, hnd, fun b hb => .inl hb, fun _ => rfl⟩⟩
end Go.Proofs.YtddimbdeggomaaaGreat
end
