/- Joined texts. -/
import Derived.Test.YtakopfjdmmnjcaaGreatZ10
set_option linter.all false
section
set_option maxRecDepth 100000
set_option maxHeartbeats 4000000
namespace Go.Proofs.YtakopfjdmmnjcaaGreat
open Go Go.Sx Go.RowKit Go.Proofs
def mQ {α : Type} (g : α → ByteArray) (l : List α) (k : Nat) : Bool := decide (k = 0) || (match l[k - 1]?, l[k]? with
 | some p, some x => dW (g p) (g x)
 | _, _ => true)
theorem uE {α : Type} (g : α → ByteArray) (l : List α) (k : Nat) (h : ¬ 0 < k) : mQ g l k = true := by
 have e : k = 0 := by omega
 simp [mQ, e]
theorem lX {α : Type} (g : α → ByteArray) (l : List α) (k : Nat) (h : 0 < k) (hl : k < l.length) : mQ g l k = dW (g (l[k - 1]'(by omega))) (g l[k]) := by
 have h1 : k - 1 < l.length := by omega
 have e : ¬ k = 0 := by omega
 simp [mQ, e, List.getElem?_eq_getElem h1, List.getElem?_eq_getElem hl]
def a5O (l : List TFile) (k : Nat) : Bool := decide (k = 0) || (match l[k - 1]?, l[k]? with
 | some p, some x => !decide (x.fID ≤ p.fID)
 | _, _ => true)
theorem a2Y (l : List TFile) (k : Nat) (h : ¬ 0 < k) : a5O l k = true := by
 have e : k = 0 := by omega
 simp [a5O, e]
theorem pF (l : List TFile) (k : Nat) (h : 0 < k) (hl : k < l.length) : a5O l k = !decide (l[k].fID ≤ (l[k - 1]'(by omega)).fID) := by
 have h1 : k - 1 < l.length := by omega
 have e : ¬ k = 0 := by omega
 simp only [a5O, e, decide_false, Bool.false_or, List.getElem?_eq_getElem h1, List.getElem?_eq_getElem hl]
def gJ (s : ByteArray) : List TField → Int
 | [] => 0
 | f :: l => if f.fName = s then f.fKind else gJ s l
theorem wB (s : ByteArray) (l : List TField) (k : Nat) (h : k < l.length) : gJ s (l.drop k) = if l[k].fName = s then l[k].fKind else gJ s (l.drop (k + 1)) := by
 rw [List.drop_eq_getElem_cons h]; rfl
def iB (s : List TField) (k : Nat) : Bool := match s[k]? with
 | none => true
 | some f => bV f.fName 1 && (inB f.fKind 1 2 && mQ TField.fName s k)
def okSchema (s : List TField) : Bool := (List.range s.length).all (iB s) && decide ((s.length : Int) ≤ 5)
def jR (s : List TField) (n : ByteArray) (v : TValue) : Bool := fO v && (!decide (v.fKind = 0) && decide (v.fKind = gJ n s))
def fP (s : List TField) (l : List TAttr) (k : Nat) : Bool := match l[k]? with
 | none => true
 | some a => mQ TAttr.fName l k && jR s a.fName a.fValue
def dS (s : List TField) (f : TFile) : Bool := (List.range f.fAttrs.length).all (fP s f.fAttrs) && (inB f.fID 1 60 && (inB f.fOwner 0 2 && (inB f.fLink 0 60 && okSchema s)))
def gP (x : TStore) (k : Nat) : Bool := match x.fFiles[k]? with
 | none => true
 | some f => dS x.fSchema f && (!decide (x.fNextID ≤ f.fID) && a5O x.fFiles k)
def bD (x : TStore) : Bool := (List.range x.fFiles.length).all (gP x) && (okSchema x.fSchema && (decide ((x.fFiles.length : Int) ≤ 12) && inB x.fNextID 1 61))
def jK (d : List TDir) (k : Nat) : Bool := match d[k]? with
 | none => true
 | some x => bV x.fName 6 && (mQ TDir.fName d k && okQ x.fQuery)
def dU (d : List TDir) : Bool := (List.range d.length).all (jK d) && decide ((d.length : Int) ≤ 5)
theorem lY (l : List TField) (s : ByteArray) (hl : l.length ≤ 4300000) : FnC Tryz.prog 183 [.o (.d (.sl (l.map dA))), os s] (oi (gJ s l)) := by
 generalize hg : gJ s l = res
 refine ent Tryz.func183 rfl Tryz.call183 rfl (fun C => ?_); simp only [go_sem, st0, Tryz.ntmps183]
 refine aD ?_
 refine aY (α := Nat) (fun k => [(9, oi k)]) (fun k => []) (fun k => k ≤ l.length ∧ gJ s (l.drop k) = res) (fun k => l.length - k) 0 (fun _ => ?_) ?_ ?_ (fun k hk => ?_)
 ·simp only [go_sem]
 ·simp only [go_sem]; simp
 ·simp [hg]
 ·simp only [go_sem]
  obtain ⟨hk, hq⟩ := hk
  refine aD ?_
  refine cnd rfl (fun h1 => ?_) (fun h1 => ?_)
  ·simp only [decide_eq_true_eq, Int.ofNat_lt] at h1
   rw [wB s l k h1] at hq
   by_cases hv : l[k].fName = s
   ·rw [if_pos hv] at hq
    have q0 := @h1; have q1 := @hv; have q2 := @decide_true; refine jQ ?_
    exact aA ⟨⟨_, rfl, by simp only [go_sem, hq]⟩, trivial⟩
   ·rw [if_neg hv] at hq
    have q0 := @h1; have q1 := @hv; have q2 := @decide_false; refine jQ ?_
    refine aF (k + 1) ?_ ?_ ?_
    ·simp only [go_sem]; simp
    ·exact ⟨by omega, hq⟩
    ·omega
  ·simp only [decide_eq_false_iff_not] at h1
   have e : k = l.length := by omega
   subst e
   rw [List.drop_length] at hq
   have hn : res = 0 := hq.symm
   subst hn
   refine aD ?_
   exact aA ⟨⟨_, rfl, by simp only [go_sem]⟩, trivial⟩
theorem iC (s : List TField) (n : ByteArray) (v : TValue) (hl : s.length ≤ 4300000) (hs : v.fStr.size ≤ 4300000) : FnC Tryz.prog 168 [.o (.d (.sl (s.map dA))), os n, kF v] (ob (jR s n v)) := by
 have hr : jR s n v = (fO v && (!decide (v.fKind = 0) && decide (v.fKind = gJ n s))) := rfl
 refine ent Tryz.func168 rfl Tryz.call168 rfl (fun C => ?_); simp only [go_sem, st0, Tryz.ntmps168]
 have q0 := @decide_true; have q1 := @decide_false; refine zT (aC v hs) (lY s n hl) ?_
 cases hv : fO v
 ·rw [hv] at hr
  simp only [go_sem, hv]
  have q0 := @decide_true; have q1 := @decide_false; have q2 := @hv; refine jQ ?_
  exact aA ⟨⟨_, rfl, by simp only [go_sem, hr, bT, decide_true, decide_false]⟩, trivial⟩
 ·rw [hv] at hr
  simp only [go_sem, hv]
  have q0 := @decide_true; have q1 := @decide_false; have q2 := @hv; refine a5E (aC v hs) (lY s n hl) ?_
  by_cases hk : v.fKind = 0
  ·simp only [hk, decide_true] at hr
   simp only [go_sem, hk, decide_true]
   have q0 := @decide_true; have q1 := @decide_false; have q2 := @hv; have q3 := @hk; refine jX ?_
   exact aA ⟨⟨_, rfl, by simp only [go_sem, hr, bT, decide_true, decide_false]⟩, trivial⟩
  ·simp only [hk, decide_false] at hr
   simp only [go_sem, hk, decide_false]
   have q0 := @decide_true; have q1 := @decide_false; have q2 := @hv; have q3 := @hk; refine a2G (aC v hs) (lY s n hl) ?_
   exact aA ⟨⟨_, rfl, by simp only [go_sem, hr, bT, decide_true, decide_false]⟩, trivial⟩
theorem gU (s : List TField) (hl : bH s ≤ 4300000) : FnC Tryz.prog 152 [.o (.d (.sl (s.map dA)))] (ob (okSchema s)) := by
 unfold bH at hl
 refine ent Tryz.func152 rfl Tryz.call152 rfl (fun C => ?_); simp only [go_sem, st0, Tryz.ntmps152]
 refine aD ?_
 refine aY (α := Nat) (fun k => [(7, oi k)]) (fun _ => []) (fun k => k ≤ s.length ∧ (List.range s.length).all (iB s) = ((List.range s.length).drop k).all (iB s)) (fun k => s.length - k) 0 (fun _ => ?_) ?_ ?_ (fun k hk => ?_)
 ·simp only [go_sem]
 ·simp only [go_sem]; simp
 ·simp
 ·obtain ⟨hk, hq⟩ := hk
  simp only [go_sem]
  refine aD ?_
  refine cnd rfl (fun h => ?_) (fun h => ?_)
  ·simp only [decide_eq_true_eq, Int.ofNat_lt] at h
   have h' : k < (List.range s.length).length := by simpa using h
   have hd := List.drop_eq_getElem_cons h'
   rw [hd, List.all_cons, List.getElem_range] at hq
   have hw := dD tT s h
   have hw1 : s[k].fName.size ≤ tT s[k] := by unfold tT; omega
   have hr : iB s k = (bV s[k].fName 1 && (inB s[k].fKind 1 2 && mQ TField.fName s k)) := by unfold iB; rw [List.getElem?_eq_getElem h]
   have q0 := @h; have q1 := @decide_true; have q2 := @decide_false; refine uS (aB s[k].fName) ?_
   cases ht : bV s[k].fName 1
   ·rw [ht] at hr
    simp only [go_sem, ht]
    have q0 := @h; have q1 := @decide_true; have q2 := @decide_false; have q3 := @ht; refine jX ?_
    have hf : okSchema s = false := by
     unfold okSchema
     rw [hq, hr]; simp
    exact aA ⟨⟨_, rfl, by simp only [go_sem, hf]⟩, trivial⟩
   ·rw [ht] at hr
    simp only [go_sem, ht]
    have q0 := @h; have q1 := @decide_true; have q2 := @decide_false; have q3 := @ht; refine a2F (aB s[k].fName) ?_
    cases hb : inB s[k].fKind 1 2
    ·rw [hb] at hr
     have hb2 : ¬ (1 ≤ s[k].fKind ∧ s[k].fKind ≤ 2) := by intro hx; simp [inB, hx.1, hx.2] at hb
     have k1 : ¬ s[k].fKind = 1 := by omega
     have k2 : ¬ s[k].fKind = 2 := by omega
     simp only [go_sem, k1, k2, decide_false]
     have q0 := @h; have q1 := @decide_true; have q2 := @decide_false; have q3 := @ht; have q4 := @k1; have q5 := @k2; refine a6S ?_
     have hf : okSchema s = false := by
      unfold okSchema
      rw [hq, hr]; simp
     exact aA ⟨⟨_, rfl, by simp only [go_sem, hf]⟩, trivial⟩
    ·rw [hb] at hr
     have hb2 : 1 ≤ s[k].fKind ∧ s[k].fKind ≤ 2 := by simpa [inB] using hb
     by_cases k1 : s[k].fKind = 1
     ·simp only [go_sem, k1, decide_true]
      have q0 := @h; have q1 := @decide_true; have q2 := @decide_false; have q3 := @ht; have q4 := @k1; refine a1I (aB s[k].fName) ?_
      by_cases hk0 : 0 < k
      ·have hki : (0 : Int) < (k : Int) := by omega
       have hkx : (k : Int) - 1 = ((k - 1 : Nat) : Int) := by omega
       have hkl : k - 1 < s.length := by omega
       rw [lX TField.fName s k hk0 h] at hr
       simp only [go_sem, hki, hkx, hkl, decide_true]
       have q0 := @h; have q1 := @decide_true; have q2 := @decide_false; have q3 := @ht; have q4 := @k1; have q5 := @hki; have q6 := @hkx; have q7 := @hkl; refine a2H (aB s[k].fName) ?_
       cases ho : dW (TField.fName s[k - 1]) (TField.fName s[k])
       ·rw [ho] at hr
        simp only [go_sem, ho]
        have q0 := @h; have q1 := @decide_true; have q2 := @decide_false; have q3 := @ht; have q4 := @k1; have q5 := @hki; have q6 := @hkx; have q7 := @hkl; have q8 := @ho; refine a0G ?_
        have hf : okSchema s = false := by
         unfold okSchema
         rw [hq, hr]; simp
        exact aA ⟨⟨_, rfl, by simp only [go_sem, hf]⟩, trivial⟩
       ·rw [ho] at hr
        simp only [go_sem, ho]
        have q0 := @h; have q1 := @decide_true; have q2 := @decide_false; have q3 := @ht; have q4 := @k1; have q5 := @hki; have q6 := @hkx; have q7 := @hkl; have q8 := @ho; refine b0U (aB s[k].fName) ?_
        refine aF (k + 1) ?_ ?_ ?_
        ·simp only [go_sem]; simp
        ·refine ⟨h, ?_⟩
         rw [hq, hr]; simp
        ·omega
      ·have hki : ¬ (0 : Int) < (k : Int) := by omega
       rw [uE TField.fName s k hk0] at hr
       simp only [go_sem, hki, decide_false]
       have q0 := @h; have q1 := @decide_true; have q2 := @decide_false; have q3 := @ht; have q4 := @k1; have q5 := @hki; refine a1J (aB s[k].fName) ?_
       refine aF (k + 1) ?_ ?_ ?_
       ·simp only [go_sem]; simp
       ·refine ⟨h, ?_⟩
        rw [hq, hr]; simp
       ·omega
     ·have k2 : s[k].fKind = 2 := by omega
      simp only [go_sem, k1, k2, decide_true, decide_false]
      have q0 := @h; have q1 := @decide_true; have q2 := @decide_false; have q3 := @ht; have q4 := @k1; have q5 := @k2; refine a1J (aB s[k].fName) ?_
      by_cases hk0 : 0 < k
      ·have hki : (0 : Int) < (k : Int) := by omega
       have hkx : (k : Int) - 1 = ((k - 1 : Nat) : Int) := by omega
       have hkl : k - 1 < s.length := by omega
       rw [lX TField.fName s k hk0 h] at hr
       simp only [go_sem, hki, hkx, hkl, decide_true]
       have q0 := @h; have q1 := @decide_true; have q2 := @decide_false; have q3 := @ht; have q4 := @k1; have q5 := @k2; have q6 := @hki; have q7 := @hkx; have q8 := @hkl; refine b0U (aB s[k].fName) ?_
       cases ho : dW (TField.fName s[k - 1]) (TField.fName s[k])
       ·rw [ho] at hr
        simp only [go_sem, ho]
        have q0 := @h; have q1 := @decide_true; have q2 := @decide_false; have q3 := @ht; have q4 := @k1; have q5 := @k2; have q6 := @hki; have q7 := @hkx; have q8 := @hkl; have q9 := @ho; refine rU ?_
        have hf : okSchema s = false := by
         unfold okSchema
         rw [hq, hr]; simp
        exact aA ⟨⟨_, rfl, by simp only [go_sem, hf]⟩, trivial⟩
       ·rw [ho] at hr
        simp only [go_sem, ho]
        have q0 := @h; have q1 := @decide_true; have q2 := @decide_false; have q3 := @ht; have q4 := @k1; have q5 := @k2; have q6 := @hki; have q7 := @hkx; have q8 := @hkl; have q9 := @ho; refine a9K (aB s[k].fName) ?_
        refine aF (k + 1) ?_ ?_ ?_
        ·simp only [go_sem]; simp
        ·refine ⟨h, ?_⟩
         rw [hq, hr]; simp
        ·omega
      ·have hki : ¬ (0 : Int) < (k : Int) := by omega
       rw [uE TField.fName s k hk0] at hr
       simp only [go_sem, hki, decide_false]
       have q0 := @h; have q1 := @decide_true; have q2 := @decide_false; have q3 := @ht; have q4 := @k1; have q5 := @k2; have q6 := @hki; refine b4l (aB s[k].fName) ?_
       refine aF (k + 1) ?_ ?_ ?_
       ·simp only [go_sem]; simp
       ·refine ⟨h, ?_⟩
        rw [hq, hr]; simp
       ·omega
  ·simp only [decide_eq_false_iff_not] at h
   have e : k = s.length := by omega
   have hq' : (List.range s.length).all (iB s) = true := by
    rw [hq, List.drop_of_length_le (by simp [e])]; rfl
   have hr : okSchema s = decide ((s.length : Int) ≤ 5) := by unfold okSchema; rw [hq']; simp only [Bool.true_and]
   have q0 := @decide_true; have q1 := @decide_false; refine fM ?_
   exact aA ⟨⟨_, rfl, by simp only [go_sem, hr, bT, decide_true, decide_false]⟩, trivial⟩
theorem jL (n : Int) : FnC Tryz.prog 120 [oi n] (ob (inB n 0 2)) := by
 refine ent Tryz.func120 rfl Tryz.call120 rfl (fun C => ?_); simp only [go_sem, st0, Tryz.ntmps120]
 refine iZ (aL n 0 2) ?_
 exact aA ⟨⟨_, rfl, by simp only [go_sem]⟩, trivial⟩
theorem kN (s : List TField) (f : TFile) (hl : bH s ≤ 4300000) (hf : bA f ≤ 4300000) : FnC Tryz.prog 151 [.o (.d (.sl (s.map dA))), iM f] (ob (dS s f)) := by
 unfold bH at hl
 unfold bA eT at hf
 refine ent Tryz.func151 rfl Tryz.call151 rfl (fun C => ?_); simp only [go_sem, st0, Tryz.ntmps151]
 refine aD ?_
 refine aY (α := Nat) (fun k => [(10, oi k)]) (fun _ => []) (fun k => k ≤ f.fAttrs.length ∧ (List.range f.fAttrs.length).all (fP s f.fAttrs) = ((List.range f.fAttrs.length).drop k).all (fP s f.fAttrs)) (fun k => f.fAttrs.length - k) 0 (fun _ => ?_) ?_ ?_ (fun k hk => ?_)
 ·simp only [go_sem]
 ·simp only [go_sem]; simp
 ·simp
 ·obtain ⟨hk, hq⟩ := hk
  simp only [go_sem]
  refine aD ?_
  refine cnd rfl (fun h => ?_) (fun h => ?_)
  ·simp only [decide_eq_true_eq, Int.ofNat_lt] at h
   have h' : k < (List.range f.fAttrs.length).length := by simpa using h
   have hd := List.drop_eq_getElem_cons h'
   rw [hd, List.all_cons, List.getElem_range] at hq
   have hw := dD iU f.fAttrs h
   have hw1 : f.fAttrs[k].fName.size + f.fAttrs[k].fValue.fStr.size ≤ iU f.fAttrs[k] := by unfold iU iG; omega
   have hr : fP s f.fAttrs k = (mQ TAttr.fName f.fAttrs k && jR s f.fAttrs[k].fName f.fAttrs[k].fValue) := by unfold fP; rw [List.getElem?_eq_getElem h]
   have q0 := @h; have q1 := @decide_true; have q2 := @decide_false; refine uS (iC s f.fAttrs[k].fName f.fAttrs[k].fValue (by omega) (by omega)) ?_
   by_cases hk0 : 0 < k
   ·have hki : (0 : Int) < (k : Int) := by omega
    have hkx : (k : Int) - 1 = ((k - 1 : Nat) : Int) := by omega
    have hkl : k - 1 < f.fAttrs.length := by omega
    rw [lX TAttr.fName f.fAttrs k hk0 h] at hr
    simp only [go_sem, hki, hkx, hkl, decide_true]
    have q0 := @h; have q1 := @decide_true; have q2 := @decide_false; have q3 := @hki; have q4 := @hkx; have q5 := @hkl; refine a1J (iC s f.fAttrs[k].fName f.fAttrs[k].fValue (by omega) (by omega)) ?_
    cases ho : dW (TAttr.fName f.fAttrs[k - 1]) (TAttr.fName f.fAttrs[k])
    ·rw [ho] at hr
     simp only [go_sem, ho]
     have q0 := @h; have q1 := @decide_true; have q2 := @decide_false; have q3 := @hki; have q4 := @hkx; have q5 := @hkl; have q6 := @ho; refine a8E ?_
     have hf : dS s f = false := by
      unfold dS
      rw [hq, hr]; simp
     exact aA ⟨⟨_, rfl, by simp only [go_sem, hf]⟩, trivial⟩
    ·rw [ho] at hr
     simp only [go_sem, ho]
     have q0 := @h; have q1 := @decide_true; have q2 := @decide_false; have q3 := @hki; have q4 := @hkx; have q5 := @hkl; have q6 := @ho; refine b4l (iC s f.fAttrs[k].fName f.fAttrs[k].fValue (by omega) (by omega)) ?_
     cases hm : jR s f.fAttrs[k].fName f.fAttrs[k].fValue
     ·rw [hm] at hr
      simp only [go_sem, hm]
      have q0 := @h; have q1 := @decide_true; have q2 := @decide_false; have q3 := @hki; have q4 := @hkx; have q5 := @hkl; have q6 := @ho; have q7 := @hm; refine a0F ?_
      have hf : dS s f = false := by
       unfold dS
       rw [hq, hr]; simp
      exact aA ⟨⟨_, rfl, by simp only [go_sem, hf]⟩, trivial⟩
     ·rw [hm] at hr
      simp only [go_sem, hm]
      have q0 := @h; have q1 := @decide_true; have q2 := @decide_false; have q3 := @hki; have q4 := @hkx; have q5 := @hkl; have q6 := @ho; have q7 := @hm; refine a2H (iC s f.fAttrs[k].fName f.fAttrs[k].fValue (by omega) (by omega)) ?_
      refine aF (k + 1) ?_ ?_ ?_
      ·simp only [go_sem]; simp
      ·refine ⟨h, ?_⟩
       rw [hq, hr]; simp
      ·omega
   ·have hki : ¬ (0 : Int) < (k : Int) := by omega
    rw [uE TAttr.fName f.fAttrs k hk0] at hr
    simp only [go_sem, hki, decide_false]
    have q0 := @h; have q1 := @decide_true; have q2 := @decide_false; have q3 := @hki; refine a2F (iC s f.fAttrs[k].fName f.fAttrs[k].fValue (by omega) (by omega)) ?_
    cases hm : jR s f.fAttrs[k].fName f.fAttrs[k].fValue
    ·rw [hm] at hr
     simp only [go_sem, hm]
     have q0 := @h; have q1 := @decide_true; have q2 := @decide_false; have q3 := @hki; have q4 := @hm; refine tO ?_
     have hf : dS s f = false := by
      unfold dS
      rw [hq, hr]; simp
     exact aA ⟨⟨_, rfl, by simp only [go_sem, hf]⟩, trivial⟩
    ·rw [hm] at hr
     simp only [go_sem, hm]
     have q0 := @h; have q1 := @decide_true; have q2 := @decide_false; have q3 := @hki; have q4 := @hm; refine a1I (iC s f.fAttrs[k].fName f.fAttrs[k].fValue (by omega) (by omega)) ?_
     refine aF (k + 1) ?_ ?_ ?_
     ·simp only [go_sem]; simp
     ·refine ⟨h, ?_⟩
      rw [hq, hr]; simp
     ·omega
  ·simp only [decide_eq_false_iff_not] at h
   have e : k = f.fAttrs.length := by omega
   have hq' : (List.range f.fAttrs.length).all (fP s f.fAttrs) = true := by
    rw [hq, List.drop_of_length_le (by simp [e])]; rfl
   have hr : dS s f = (inB f.fID 1 60 && (inB f.fOwner 0 2 && (inB f.fLink 0 60 && okSchema s))) := by unfold dS; rw [hq']; simp only [Bool.true_and]
   have q0 := @decide_true; have q1 := @decide_false; refine b4k (aL f.fID 1 60) (jL f.fOwner) (aL f.fLink 0 60) (gU s (by unfold bH; omega)) ?_
   cases h1 : inB f.fID 1 60
   ·rw [h1] at hr
    simp only [go_sem, h1]
    have q0 := @decide_true; have q1 := @decide_false; have q2 := @h1; refine jQ ?_
    exact aA ⟨⟨_, rfl, by simp only [go_sem, hr, bT, decide_true, decide_false]⟩, trivial⟩
   ·rw [h1] at hr
    simp only [go_sem, h1]
    have q0 := @decide_true; have q1 := @decide_false; have q2 := @h1; refine b6Y (aL f.fID 1 60) (jL f.fOwner) (aL f.fLink 0 60) (gU s (by unfold bH; omega)) ?_
    cases h2 : inB f.fOwner 0 2
    ·rw [h2] at hr
     simp only [go_sem, h2]
     have q0 := @decide_true; have q1 := @decide_false; have q2 := @h1; have q3 := @h2; refine jX ?_
     exact aA ⟨⟨_, rfl, by simp only [go_sem, hr, bT, decide_true, decide_false]⟩, trivial⟩
    ·rw [h2] at hr
     simp only [go_sem, h2]
     have q0 := @decide_true; have q1 := @decide_false; have q2 := @h1; have q3 := @h2; refine b6Z (aL f.fID 1 60) (jL f.fOwner) (aL f.fLink 0 60) (gU s (by unfold bH; omega)) ?_
     cases h3 : inB f.fLink 0 60
     ·rw [h3] at hr
      simp only [go_sem, h3]
      have q0 := @decide_true; have q1 := @decide_false; have q2 := @h1; have q3 := @h2; have q4 := @h3; refine tO ?_
      exact aA ⟨⟨_, rfl, by simp only [go_sem, hr, bT, decide_true, decide_false]⟩, trivial⟩
     ·rw [h3] at hr
      simp only [go_sem, h3]
      have q0 := @decide_true; have q1 := @decide_false; have q2 := @h1; have q3 := @h2; have q4 := @h3; refine b7a (aL f.fID 1 60) (jL f.fOwner) (aL f.fLink 0 60) (gU s (by unfold bH; omega)) ?_
      exact aA ⟨⟨_, rfl, by simp only [go_sem, hr, bT, decide_true, decide_false]⟩, trivial⟩
theorem kY (x : TStore) (hx : aJ x ≤ 4300000) : FnC Tryz.prog 124 [bG x] (ob (bD x)) := by
 unfold aJ bH eF at hx
 refine ent Tryz.func124 rfl Tryz.call124 rfl (fun C => ?_); simp only [go_sem, st0, Tryz.ntmps124]
 refine aD ?_
 refine aY (α := Nat) (fun k => [(8, oi k)]) (fun _ => []) (fun k => k ≤ x.fFiles.length ∧ (List.range x.fFiles.length).all (gP x) = ((List.range x.fFiles.length).drop k).all (gP x)) (fun k => x.fFiles.length - k) 0 (fun _ => ?_) ?_ ?_ (fun k hk => ?_)
 ·simp only [go_sem]
 ·simp only [go_sem]; simp
 ·simp
 ·obtain ⟨hk, hq⟩ := hk
  simp only [go_sem]
  refine aD ?_
  refine cnd rfl (fun h => ?_) (fun h => ?_)
  ·simp only [decide_eq_true_eq, Int.ofNat_lt] at h
   have h' : k < (List.range x.fFiles.length).length := by simpa using h
   have hd := List.drop_eq_getElem_cons h'
   rw [hd, List.all_cons, List.getElem_range] at hq
   have hw := dD bA x.fFiles h
   have hr : gP x k = (dS x.fSchema x.fFiles[k] && (!decide (x.fNextID ≤ x.fFiles[k].fID) && a5O x.fFiles k)) := by unfold gP; rw [List.getElem?_eq_getElem h]
   have q0 := @h; have q1 := @decide_true; have q2 := @decide_false; refine uS (kN x.fSchema x.fFiles[k] (by unfold bH; omega) (by omega)) ?_
   cases hm : dS x.fSchema x.fFiles[k]
   ·rw [hm] at hr
    simp only [go_sem, hm]
    have q0 := @h; have q1 := @decide_true; have q2 := @decide_false; have q3 := @hm; refine jX ?_
    have hf : bD x = false := by
     unfold bD
     rw [hq, hr]; simp
    exact aA ⟨⟨_, rfl, by simp only [go_sem, hf]⟩, trivial⟩
   ·rw [hm] at hr
    simp only [go_sem, hm]
    have q0 := @h; have q1 := @decide_true; have q2 := @decide_false; have q3 := @hm; refine a2F (kN x.fSchema x.fFiles[k] (by unfold bH; omega) (by omega)) ?_
    by_cases hn : x.fNextID ≤ x.fFiles[k].fID
    ·simp only [hn, decide_true] at hr
     simp only [go_sem, hn, decide_true]
     have q0 := @h; have q1 := @decide_true; have q2 := @decide_false; have q3 := @hm; have q4 := @hn; refine tO ?_
     have hf : bD x = false := by
      unfold bD
      rw [hq, hr]; simp
     exact aA ⟨⟨_, rfl, by simp only [go_sem, hf]⟩, trivial⟩
    ·simp only [hn, decide_false] at hr
     simp only [go_sem, hn, decide_false]
     have q0 := @h; have q1 := @decide_true; have q2 := @decide_false; have q3 := @hm; have q4 := @hn; refine a1I (kN x.fSchema x.fFiles[k] (by unfold bH; omega) (by omega)) ?_
     by_cases hk0 : 0 < k
     ·have hki : (0 : Int) < (k : Int) := by omega
      have hkx : (k : Int) - 1 = ((k - 1 : Nat) : Int) := by omega
      have hkl : k - 1 < x.fFiles.length := by omega
      rw [pF x.fFiles k hk0 h] at hr
      simp only [go_sem, hki, hkx, hkl, decide_true]
      have q0 := @h; have q1 := @decide_true; have q2 := @decide_false; have q3 := @hm; have q4 := @hn; have q5 := @hki; have q6 := @hkx; have q7 := @hkl; refine a2H (kN x.fSchema x.fFiles[k] (by unfold bH; omega) (by omega)) ?_
      by_cases ho : x.fFiles[k].fID ≤ x.fFiles[k - 1].fID
      ·simp only [ho, decide_true] at hr
       simp only [go_sem, ho, decide_true]
       have q0 := @h; have q1 := @decide_true; have q2 := @decide_false; have q3 := @hm; have q4 := @hn; have q5 := @hki; have q6 := @hkx; have q7 := @hkl; have q8 := @ho; refine a0G ?_
       have hf : bD x = false := by
        unfold bD
        rw [hq, hr]; simp
       exact aA ⟨⟨_, rfl, by simp only [go_sem, hf]⟩, trivial⟩
      ·simp only [ho, decide_false] at hr
       simp only [go_sem, ho, decide_false]
       have q0 := @h; have q1 := @decide_true; have q2 := @decide_false; have q3 := @hm; have q4 := @hn; have q5 := @hki; have q6 := @hkx; have q7 := @hkl; have q8 := @ho; refine b0U (kN x.fSchema x.fFiles[k] (by unfold bH; omega) (by omega)) ?_
       refine aF (k + 1) ?_ ?_ ?_
       ·simp only [go_sem]; simp
       ·refine ⟨h, ?_⟩
        rw [hq, hr]; simp
       ·omega
     ·have hki : ¬ (0 : Int) < (k : Int) := by omega
      rw [a2Y x.fFiles k hk0] at hr
      simp only [go_sem, hki, decide_false]
      have q0 := @h; have q1 := @decide_true; have q2 := @decide_false; have q3 := @hm; have q4 := @hn; have q5 := @hki; refine a1J (kN x.fSchema x.fFiles[k] (by unfold bH; omega) (by omega)) ?_
      refine aF (k + 1) ?_ ?_ ?_
      ·simp only [go_sem]; simp
      ·refine ⟨h, ?_⟩
       rw [hq, hr]; simp
      ·omega
  ·simp only [decide_eq_false_iff_not] at h
   have e : k = x.fFiles.length := by omega
   have hq' : (List.range x.fFiles.length).all (gP x) = true := by
    rw [hq, List.drop_of_length_le (by simp [e])]; rfl
   have hr : bD x = (okSchema x.fSchema && (decide ((x.fFiles.length : Int) ≤ 12) && inB x.fNextID 1 61)) := by unfold bD; rw [hq']; simp only [Bool.true_and]
   have q0 := @decide_true; have q1 := @decide_false; refine zT (gU x.fSchema (by unfold bH; omega)) (aL x.fNextID 1 61) ?_
   cases h0 : okSchema x.fSchema
   ·rw [h0] at hr
    simp only [go_sem, h0]
    have q0 := @decide_true; have q1 := @decide_false; have q2 := @h0; refine jQ ?_
    exact aA ⟨⟨_, rfl, by simp only [go_sem, hr, bT, decide_true, decide_false]⟩, trivial⟩
   ·rw [h0] at hr
    simp only [go_sem, h0]
    have q0 := @decide_true; have q1 := @decide_false; have q2 := @h0; refine a5E (gU x.fSchema (by unfold bH; omega)) (aL x.fNextID 1 61) ?_
    by_cases h1 : (x.fFiles.length : Int) ≤ 12
    ·simp only [h1, decide_true] at hr
     simp only [go_sem, h1, decide_true]
     have q0 := @decide_true; have q1 := @decide_false; have q2 := @h0; have q3 := @h1; refine a2G (gU x.fSchema (by unfold bH; omega)) (aL x.fNextID 1 61) ?_
     exact aA ⟨⟨_, rfl, by simp only [go_sem, hr, bT, decide_true, decide_false]⟩, trivial⟩
    ·simp only [h1, decide_false] at hr
     simp only [go_sem, h1, decide_false]
     have q0 := @decide_true; have q1 := @decide_false; have q2 := @h0; have q3 := @h1; refine jX ?_
     exact aA ⟨⟨_, rfl, by simp only [go_sem, hr, bT, decide_true, decide_false]⟩, trivial⟩
theorem a0h (d : List TDir) (hd : gN d ≤ 4300000) : FnC Tryz.prog 184 [.o (.d (.sl (d.map dG)))] (ob (dU d)) := by
 unfold gN at hd
 refine ent Tryz.func184 rfl Tryz.call184 rfl (fun C => ?_); simp only [go_sem, st0, Tryz.ntmps184]
 refine aD ?_
 refine aY (α := Nat) (fun k => [(7, oi k)]) (fun _ => []) (fun k => k ≤ d.length ∧ (List.range d.length).all (jK d) = ((List.range d.length).drop k).all (jK d)) (fun k => d.length - k) 0 (fun _ => ?_) ?_ ?_ (fun k hk => ?_)
 ·simp only [go_sem]
 ·simp only [go_sem]; simp
 ·simp
 ·obtain ⟨hk, hq⟩ := hk
  simp only [go_sem]
  refine aD ?_
  refine cnd rfl (fun h => ?_) (fun h => ?_)
  ·simp only [decide_eq_true_eq, Int.ofNat_lt] at h
   have h' : k < (List.range d.length).length := by simpa using h
   have hd := List.drop_eq_getElem_cons h'
   rw [hd, List.all_cons, List.getElem_range] at hq
   have hw := dD lW d h
   have hw1 : d[k].fName.size + eU d[k].fQuery ≤ lW d[k] := by unfold lW; omega
   have hr : jK d k = (bV d[k].fName 6 && (mQ TDir.fName d k && okQ d[k].fQuery)) := by unfold jK; rw [List.getElem?_eq_getElem h]
   have q0 := @h; have q1 := @decide_true; have q2 := @decide_false; refine a5E (aT d[k].fName (by omega)) (cZ d[k].fQuery (by omega)) ?_
   cases ht : bV d[k].fName 6
   ·rw [ht] at hr
    simp only [go_sem, ht]
    have q0 := @h; have q1 := @decide_true; have q2 := @decide_false; have q3 := @ht; refine jX ?_
    have hf : dU d = false := by
     unfold dU
     rw [hq, hr]; simp
    exact aA ⟨⟨_, rfl, by simp only [go_sem, hf]⟩, trivial⟩
   ·rw [ht] at hr
    simp only [go_sem, ht]
    have q0 := @h; have q1 := @decide_true; have q2 := @decide_false; have q3 := @ht; refine a2G (aT d[k].fName (by omega)) (cZ d[k].fQuery (by omega)) ?_
    by_cases hk0 : 0 < k
    ·have hki : (0 : Int) < (k : Int) := by omega
     have hkx : (k : Int) - 1 = ((k - 1 : Nat) : Int) := by omega
     have hkl : k - 1 < d.length := by omega
     rw [lX TDir.fName d k hk0 h] at hr
     simp only [go_sem, hki, hkx, hkl, decide_true]
     have q0 := @h; have q1 := @decide_true; have q2 := @decide_false; have q3 := @ht; have q4 := @hki; have q5 := @hkx; have q6 := @hkl; refine b5N (aT d[k].fName (by omega)) (cZ d[k].fQuery (by omega)) ?_
     cases ho : dW (TDir.fName d[k - 1]) (TDir.fName d[k])
     ·rw [ho] at hr
      simp only [go_sem, ho]
      have q0 := @h; have q1 := @decide_true; have q2 := @decide_false; have q3 := @ht; have q4 := @hki; have q5 := @hkx; have q6 := @hkl; have q7 := @ho; refine a0F ?_
      have hf : dU d = false := by
       unfold dU
       rw [hq, hr]; simp
      exact aA ⟨⟨_, rfl, by simp only [go_sem, hf]⟩, trivial⟩
     ·rw [ho] at hr
      simp only [go_sem, ho]
      have q0 := @h; have q1 := @decide_true; have q2 := @decide_false; have q3 := @ht; have q4 := @hki; have q5 := @hkx; have q6 := @hkl; have q7 := @ho; refine b2r (aT d[k].fName (by omega)) (cZ d[k].fQuery (by omega)) ?_
      cases hv : okQ d[k].fQuery
      ·rw [hv] at hr
       simp only [go_sem, hv]
       have q0 := @h; have q1 := @decide_true; have q2 := @decide_false; have q3 := @ht; have q4 := @hki; have q5 := @hkx; have q6 := @hkl; have q7 := @ho; have q8 := @hv; refine a0G ?_
       have hf : dU d = false := by
        unfold dU
        rw [hq, hr]; simp
       exact aA ⟨⟨_, rfl, by simp only [go_sem, hf]⟩, trivial⟩
      ·rw [hv] at hr
       simp only [go_sem, hv]
       have q0 := @h; have q1 := @decide_true; have q2 := @decide_false; have q3 := @ht; have q4 := @hki; have q5 := @hkx; have q6 := @hkl; have q7 := @ho; have q8 := @hv; refine a6T (aT d[k].fName (by omega)) (cZ d[k].fQuery (by omega)) ?_
       refine aF (k + 1) ?_ ?_ ?_
       ·simp only [go_sem]; simp
       ·refine ⟨h, ?_⟩
        rw [hq, hr]; simp
       ·omega
    ·have hki : ¬ (0 : Int) < (k : Int) := by omega
     rw [uE TDir.fName d k hk0] at hr
     simp only [go_sem, hki, decide_false]
     have q0 := @h; have q1 := @decide_true; have q2 := @decide_false; have q3 := @ht; have q4 := @hki; refine b0T (aT d[k].fName (by omega)) (cZ d[k].fQuery (by omega)) ?_
     cases hv : okQ d[k].fQuery
     ·rw [hv] at hr
      simp only [go_sem, hv]
      have q0 := @h; have q1 := @decide_true; have q2 := @decide_false; have q3 := @ht; have q4 := @hki; have q5 := @hv; refine a6S ?_
      have hf : dU d = false := by
       unfold dU
       rw [hq, hr]; simp
      exact aA ⟨⟨_, rfl, by simp only [go_sem, hf]⟩, trivial⟩
     ·rw [hv] at hr
      simp only [go_sem, hv]
      have q0 := @h; have q1 := @decide_true; have q2 := @decide_false; have q3 := @ht; have q4 := @hki; have q5 := @hv; refine a3E (aT d[k].fName (by omega)) (cZ d[k].fQuery (by omega)) ?_
      refine aF (k + 1) ?_ ?_ ?_
      ·simp only [go_sem]; simp
      ·refine ⟨h, ?_⟩
       rw [hq, hr]; simp
      ·omega
  ·simp only [decide_eq_false_iff_not] at h
   have e : k = d.length := by omega
   have hq' : (List.range d.length).all (jK d) = true := by
    rw [hq, List.drop_of_length_le (by simp [e])]; rfl
   have hr : dU d = decide ((d.length : Int) ≤ 5) := by unfold dU; rw [hq']; simp only [Bool.true_and]
   have q0 := @decide_true; have q1 := @decide_false; refine fM ?_
   exact aA ⟨⟨_, rfl, by simp only [go_sem, hr, bT, decide_true, decide_false]⟩, trivial⟩
theorem lZ (l : List TField) (s : ByteArray) (hl : l.length ≤ 4300000) : FnC Tryz.prog 114 [.o (.d (.sl (l.map dA))), os s] (oi (gJ s l)) := by
 generalize hg : gJ s l = res
 refine ent Tryz.func114 rfl Tryz.call114 rfl (fun C => ?_); simp only [go_sem, st0, Tryz.ntmps114]
 refine aD ?_
 refine aY (α := Nat) (fun k => [(5, oi k)]) (fun k => []) (fun k => k ≤ l.length ∧ gJ s (l.drop k) = res) (fun k => l.length - k) 0 (fun _ => ?_) ?_ ?_ (fun k hk => ?_)
 ·simp only [go_sem]
 ·simp only [go_sem]; simp
 ·simp [hg]
 ·simp only [go_sem]
  obtain ⟨hk, hq⟩ := hk
  refine aD ?_
  refine cnd rfl (fun h1 => ?_) (fun h1 => ?_)
  ·simp only [decide_eq_true_eq, Int.ofNat_lt] at h1
   rw [wB s l k h1] at hq
   by_cases hv : l[k].fName = s
   ·rw [if_pos hv] at hq
    have q0 := @h1; have q1 := @hv; have q2 := @decide_true; refine jQ ?_
    exact aA ⟨⟨_, rfl, by simp only [go_sem, hq]⟩, trivial⟩
   ·rw [if_neg hv] at hq
    have q0 := @h1; have q1 := @hv; have q2 := @decide_false; refine jQ ?_
    refine aF (k + 1) ?_ ?_ ?_
    ·simp only [go_sem]; simp
    ·exact ⟨by omega, hq⟩
    ·omega
  ·simp only [decide_eq_false_iff_not] at h1
   have e : k = l.length := by omega
   subst e
   rw [List.drop_length] at hq
   have hn : res = 0 := hq.symm
   subst hn
   refine aD ?_
   exact aA ⟨⟨_, rfl, by simp only [go_sem]⟩, trivial⟩
theorem jD (s : List TField) (n : ByteArray) (v : TValue) (hl : s.length ≤ 4300000) (hs : v.fStr.size ≤ 4300000) : FnC Tryz.prog 70 [.o (.d (.sl (s.map dA))), os n, kF v] (ob (jR s n v)) := by
 have hr : jR s n v = (fO v && (!decide (v.fKind = 0) && decide (v.fKind = gJ n s))) := rfl
 refine ent Tryz.func70 rfl Tryz.call70 rfl (fun C => ?_); simp only [go_sem, st0, Tryz.ntmps70]
 have q0 := @decide_true; have q1 := @decide_false; refine zT (bK v hs) (lZ s n hl) ?_
 cases hv : fO v
 ·rw [hv] at hr
  simp only [go_sem, hv]
  have q0 := @decide_true; have q1 := @decide_false; have q2 := @hv; refine jQ ?_
  exact aA ⟨⟨_, rfl, by simp only [go_sem, hr, bT, decide_true, decide_false]⟩, trivial⟩
 ·rw [hv] at hr
  simp only [go_sem, hv]
  have q0 := @decide_true; have q1 := @decide_false; have q2 := @hv; refine a5E (bK v hs) (lZ s n hl) ?_
  by_cases hk : v.fKind = 0
  ·simp only [hk, decide_true] at hr
   simp only [go_sem, hk, decide_true]
   have q0 := @decide_true; have q1 := @decide_false; have q2 := @hv; have q3 := @hk; refine jX ?_
   exact aA ⟨⟨_, rfl, by simp only [go_sem, hr, bT, decide_true, decide_false]⟩, trivial⟩
  ·simp only [hk, decide_false] at hr
   simp only [go_sem, hk, decide_false]
   have q0 := @decide_true; have q1 := @decide_false; have q2 := @hv; have q3 := @hk; refine a2G (bK v hs) (lZ s n hl) ?_
   exact aA ⟨⟨_, rfl, by simp only [go_sem, hr, bT, decide_true, decide_false]⟩, trivial⟩
theorem gV (s : List TField) (hl : bH s ≤ 4300000) : FnC Tryz.prog 33 [.o (.d (.sl (s.map dA)))] (ob (okSchema s)) := by
 unfold bH at hl
 refine ent Tryz.func33 rfl Tryz.call33 rfl (fun C => ?_); simp only [go_sem, st0, Tryz.ntmps33]
 refine aD ?_
 refine aY (α := Nat) (fun k => [(3, oi k)]) (fun _ => []) (fun k => k ≤ s.length ∧ (List.range s.length).all (iB s) = ((List.range s.length).drop k).all (iB s)) (fun k => s.length - k) 0 (fun _ => ?_) ?_ ?_ (fun k hk => ?_)
 ·simp only [go_sem]
 ·simp only [go_sem]; simp
 ·simp
 ·obtain ⟨hk, hq⟩ := hk
  simp only [go_sem]
  refine aD ?_
  refine cnd rfl (fun h => ?_) (fun h => ?_)
  ·simp only [decide_eq_true_eq, Int.ofNat_lt] at h
   have h' : k < (List.range s.length).length := by simpa using h
   have hd := List.drop_eq_getElem_cons h'
   rw [hd, List.all_cons, List.getElem_range] at hq
   have hw := dD tT s h
   have hw1 : s[k].fName.size ≤ tT s[k] := by unfold tT; omega
   have hr : iB s k = (bV s[k].fName 1 && (inB s[k].fKind 1 2 && mQ TField.fName s k)) := by unfold iB; rw [List.getElem?_eq_getElem h]
   have q0 := @h; have q1 := @decide_true; have q2 := @decide_false; refine a5E (aK s[k].fName (by omega)) (bP s[k].fKind 1 2) ?_
   cases ht : bV s[k].fName 1
   ·rw [ht] at hr
    simp only [go_sem, ht]
    have q0 := @h; have q1 := @decide_true; have q2 := @decide_false; have q3 := @ht; refine jX ?_
    have hf : okSchema s = false := by
     unfold okSchema
     rw [hq, hr]; simp
    exact aA ⟨⟨_, rfl, by simp only [go_sem, hf]⟩, trivial⟩
   ·rw [ht] at hr
    simp only [go_sem, ht]
    have q0 := @h; have q1 := @decide_true; have q2 := @decide_false; have q3 := @ht; refine a2G (aK s[k].fName (by omega)) (bP s[k].fKind 1 2) ?_
    cases hb : inB s[k].fKind 1 2
    ·rw [hb] at hr
     simp only [go_sem, hb]
     have q0 := @h; have q1 := @decide_true; have q2 := @decide_false; have q3 := @ht; have q4 := @hb; refine tO ?_
     have hf : okSchema s = false := by
      unfold okSchema
      rw [hq, hr]; simp
     exact aA ⟨⟨_, rfl, by simp only [go_sem, hf]⟩, trivial⟩
    ·rw [hb] at hr
     simp only [go_sem, hb]
     have q0 := @h; have q1 := @decide_true; have q2 := @decide_false; have q3 := @ht; have q4 := @hb; refine b0T (aK s[k].fName (by omega)) (bP s[k].fKind 1 2) ?_
     by_cases hk0 : 0 < k
     ·have hki : (0 : Int) < (k : Int) := by omega
      have hkx : (k : Int) - 1 = ((k - 1 : Nat) : Int) := by omega
      have hkl : k - 1 < s.length := by omega
      rw [lX TField.fName s k hk0 h] at hr
      simp only [go_sem, hki, hkx, hkl, decide_true]
      have q0 := @h; have q1 := @decide_true; have q2 := @decide_false; have q3 := @ht; have q4 := @hb; have q5 := @hki; have q6 := @hkx; have q7 := @hkl; refine b2r (aK s[k].fName (by omega)) (bP s[k].fKind 1 2) ?_
      cases ho : dW (TField.fName s[k - 1]) (TField.fName s[k])
      ·rw [ho] at hr
       simp only [go_sem, ho]
       have q0 := @h; have q1 := @decide_true; have q2 := @decide_false; have q3 := @ht; have q4 := @hb; have q5 := @hki; have q6 := @hkx; have q7 := @hkl; have q8 := @ho; refine a0G ?_
       have hf : okSchema s = false := by
        unfold okSchema
        rw [hq, hr]; simp
       exact aA ⟨⟨_, rfl, by simp only [go_sem, hf]⟩, trivial⟩
      ·rw [ho] at hr
       simp only [go_sem, ho]
       have q0 := @h; have q1 := @decide_true; have q2 := @decide_false; have q3 := @ht; have q4 := @hb; have q5 := @hki; have q6 := @hkx; have q7 := @hkl; have q8 := @ho; refine a6T (aK s[k].fName (by omega)) (bP s[k].fKind 1 2) ?_
       refine aF (k + 1) ?_ ?_ ?_
       ·simp only [go_sem]; simp
       ·refine ⟨h, ?_⟩
        rw [hq, hr]; simp
       ·omega
     ·have hki : ¬ (0 : Int) < (k : Int) := by omega
      rw [uE TField.fName s k hk0] at hr
      simp only [go_sem, hki, decide_false]
      have q0 := @h; have q1 := @decide_true; have q2 := @decide_false; have q3 := @ht; have q4 := @hb; have q5 := @hki; refine a3E (aK s[k].fName (by omega)) (bP s[k].fKind 1 2) ?_
      refine aF (k + 1) ?_ ?_ ?_
      ·simp only [go_sem]; simp
      ·refine ⟨h, ?_⟩
       rw [hq, hr]; simp
      ·omega
  ·simp only [decide_eq_false_iff_not] at h
   have e : k = s.length := by omega
   have hq' : (List.range s.length).all (iB s) = true := by
    rw [hq, List.drop_of_length_le (by simp [e])]; rfl
   have hr : okSchema s = decide ((s.length : Int) ≤ 5) := by unfold okSchema; rw [hq']; simp only [Bool.true_and]
   have q0 := @decide_true; have q1 := @decide_false; refine fM ?_
   exact aA ⟨⟨_, rfl, by simp only [go_sem, hr, bT, decide_true, decide_false]⟩, trivial⟩
theorem eX (s : List TField) (f : TFile) (hl : bH s ≤ 4300000) (hf : bA f ≤ 4300000) : FnC Tryz.prog 32 [.o (.d (.sl (s.map dA))), iM f] (ob (dS s f)) := by
 unfold bH at hl
 unfold bA eT at hf
 refine ent Tryz.func32 rfl Tryz.call32 rfl (fun C => ?_); simp only [go_sem, st0, Tryz.ntmps32]
 refine aD ?_
 refine aY (α := Nat) (fun k => [(5, oi k)]) (fun _ => []) (fun k => k ≤ f.fAttrs.length ∧ (List.range f.fAttrs.length).all (fP s f.fAttrs) = ((List.range f.fAttrs.length).drop k).all (fP s f.fAttrs)) (fun k => f.fAttrs.length - k) 0 (fun _ => ?_) ?_ ?_ (fun k hk => ?_)
 ·simp only [go_sem]
 ·simp only [go_sem]; simp
 ·simp
 ·obtain ⟨hk, hq⟩ := hk
  simp only [go_sem]
  refine aD ?_
  refine cnd rfl (fun h => ?_) (fun h => ?_)
  ·simp only [decide_eq_true_eq, Int.ofNat_lt] at h
   have h' : k < (List.range f.fAttrs.length).length := by simpa using h
   have hd := List.drop_eq_getElem_cons h'
   rw [hd, List.all_cons, List.getElem_range] at hq
   have hw := dD iU f.fAttrs h
   have hw1 : f.fAttrs[k].fName.size + f.fAttrs[k].fValue.fStr.size ≤ iU f.fAttrs[k] := by unfold iU iG; omega
   have hr : fP s f.fAttrs k = (jR s f.fAttrs[k].fName f.fAttrs[k].fValue && mQ TAttr.fName f.fAttrs k) := by unfold fP; rw [List.getElem?_eq_getElem h]; exact Bool.and_comm _ _
   have q0 := @h; have q1 := @decide_true; have q2 := @decide_false; refine uS (jD s f.fAttrs[k].fName f.fAttrs[k].fValue (by omega) (by omega)) ?_
   cases hm : jR s f.fAttrs[k].fName f.fAttrs[k].fValue
   ·rw [hm] at hr
    simp only [go_sem, hm]
    have q0 := @h; have q1 := @decide_true; have q2 := @decide_false; have q3 := @hm; refine jX ?_
    have hf : dS s f = false := by
     unfold dS
     rw [hq, hr]; simp
    exact aA ⟨⟨_, rfl, by simp only [go_sem, hf]⟩, trivial⟩
   ·rw [hm] at hr
    simp only [go_sem, hm]
    have q0 := @h; have q1 := @decide_true; have q2 := @decide_false; have q3 := @hm; refine a2F (jD s f.fAttrs[k].fName f.fAttrs[k].fValue (by omega) (by omega)) ?_
    by_cases hk0 : 0 < k
    ·have hki : (0 : Int) < (k : Int) := by omega
     have hkx : (k : Int) - 1 = ((k - 1 : Nat) : Int) := by omega
     have hkl : k - 1 < f.fAttrs.length := by omega
     rw [lX TAttr.fName f.fAttrs k hk0 h] at hr
     simp only [go_sem, hki, hkx, hkl, decide_true]
     have q0 := @h; have q1 := @decide_true; have q2 := @decide_false; have q3 := @hm; have q4 := @hki; have q5 := @hkx; have q6 := @hkl; refine b4l (jD s f.fAttrs[k].fName f.fAttrs[k].fValue (by omega) (by omega)) ?_
     cases ho : dW (TAttr.fName f.fAttrs[k - 1]) (TAttr.fName f.fAttrs[k])
     ·rw [ho] at hr
      simp only [go_sem, ho]
      have q0 := @h; have q1 := @decide_true; have q2 := @decide_false; have q3 := @hm; have q4 := @hki; have q5 := @hkx; have q6 := @hkl; have q7 := @ho; refine a0F ?_
      have hf : dS s f = false := by
       unfold dS
       rw [hq, hr]; simp
      exact aA ⟨⟨_, rfl, by simp only [go_sem, hf]⟩, trivial⟩
     ·rw [ho] at hr
      simp only [go_sem, ho]
      have q0 := @h; have q1 := @decide_true; have q2 := @decide_false; have q3 := @hm; have q4 := @hki; have q5 := @hkx; have q6 := @hkl; have q7 := @ho; refine a2H (jD s f.fAttrs[k].fName f.fAttrs[k].fValue (by omega) (by omega)) ?_
      refine aF (k + 1) ?_ ?_ ?_
      ·simp only [go_sem]; simp
      ·refine ⟨h, ?_⟩
       rw [hq, hr]; simp
      ·omega
    ·have hki : ¬ (0 : Int) < (k : Int) := by omega
     rw [uE TAttr.fName f.fAttrs k hk0] at hr
     simp only [go_sem, hki, decide_false]
     have q0 := @h; have q1 := @decide_true; have q2 := @decide_false; have q3 := @hm; have q4 := @hki; refine a1I (jD s f.fAttrs[k].fName f.fAttrs[k].fValue (by omega) (by omega)) ?_
     refine aF (k + 1) ?_ ?_ ?_
     ·simp only [go_sem]; simp
     ·refine ⟨h, ?_⟩
      rw [hq, hr]; simp
     ·omega
  ·simp only [decide_eq_false_iff_not] at h
   have e : k = f.fAttrs.length := by omega
   have hq' : (List.range f.fAttrs.length).all (fP s f.fAttrs) = true := by
    rw [hq, List.drop_of_length_le (by simp [e])]; rfl
   have hr : dS s f = (okSchema s && (inB f.fID 1 60 && (inB f.fOwner 0 2 && inB f.fLink 0 60))) := by unfold dS; rw [hq']; simp only [Bool.true_and]; cases okSchema s <;> simp
   have q0 := @decide_true; have q1 := @decide_false; refine b4k (bP f.fID 1 60) (bP f.fOwner 0 2) (bP f.fLink 0 60) (gV s (by unfold bH; omega)) ?_
   cases h0 : okSchema s
   ·rw [h0] at hr
    simp only [go_sem, h0]
    have q0 := @decide_true; have q1 := @decide_false; have q2 := @h0; refine jQ ?_
    exact aA ⟨⟨_, rfl, by simp only [go_sem, hr, bT, decide_true, decide_false]⟩, trivial⟩
   ·rw [h0] at hr
    simp only [go_sem, h0]
    have q0 := @decide_true; have q1 := @decide_false; have q2 := @h0; refine b6Y (bP f.fID 1 60) (bP f.fOwner 0 2) (bP f.fLink 0 60) (gV s (by unfold bH; omega)) ?_
    cases h1 : inB f.fID 1 60
    ·rw [h1] at hr
     simp only [go_sem, h1]
     have q0 := @decide_true; have q1 := @decide_false; have q2 := @h0; have q3 := @h1; refine jX ?_
     exact aA ⟨⟨_, rfl, by simp only [go_sem, hr, bT, decide_true, decide_false]⟩, trivial⟩
    ·rw [h1] at hr
     simp only [go_sem, h1]
     have q0 := @decide_true; have q1 := @decide_false; have q2 := @h0; have q3 := @h1; refine b6Z (bP f.fID 1 60) (bP f.fOwner 0 2) (bP f.fLink 0 60) (gV s (by unfold bH; omega)) ?_
     cases h2 : inB f.fOwner 0 2
     ·rw [h2] at hr
      simp only [go_sem, h2]
      have q0 := @decide_true; have q1 := @decide_false; have q2 := @h0; have q3 := @h1; have q4 := @h2; refine tO ?_
      exact aA ⟨⟨_, rfl, by simp only [go_sem, hr, bT, decide_true, decide_false]⟩, trivial⟩
     ·rw [h2] at hr
      simp only [go_sem, h2]
      have q0 := @decide_true; have q1 := @decide_false; have q2 := @h0; have q3 := @h1; have q4 := @h2; refine b7a (bP f.fID 1 60) (bP f.fOwner 0 2) (bP f.fLink 0 60) (gV s (by unfold bH; omega)) ?_
      exact aA ⟨⟨_, rfl, by simp only [go_sem, hr, bT, decide_true, decide_false]⟩, trivial⟩
theorem aV (x : TStore) (hx : aJ x ≤ 4300000) : FnC Tryz.prog 9 [bG x] (ob (bD x)) := by
 unfold aJ bH eF at hx
 refine ent Tryz.func9 rfl Tryz.call9 rfl (fun C => ?_); simp only [go_sem, st0, Tryz.ntmps9]
 refine aD ?_
 refine aY (α := Nat) (fun k => [(3, oi k)]) (fun _ => []) (fun k => k ≤ x.fFiles.length ∧ (List.range x.fFiles.length).all (gP x) = ((List.range x.fFiles.length).drop k).all (gP x)) (fun k => x.fFiles.length - k) 0 (fun _ => ?_) ?_ ?_ (fun k hk => ?_)
 ·simp only [go_sem]
 ·simp only [go_sem]; simp
 ·simp
 ·obtain ⟨hk, hq⟩ := hk
  simp only [go_sem]
  refine aD ?_
  refine cnd rfl (fun h => ?_) (fun h => ?_)
  ·simp only [decide_eq_true_eq, Int.ofNat_lt] at h
   have h' : k < (List.range x.fFiles.length).length := by simpa using h
   have hd := List.drop_eq_getElem_cons h'
   rw [hd, List.all_cons, List.getElem_range] at hq
   have hw := dD bA x.fFiles h
   have hr : gP x k = (dS x.fSchema x.fFiles[k] && (!decide (x.fNextID ≤ x.fFiles[k].fID) && a5O x.fFiles k)) := by unfold gP; rw [List.getElem?_eq_getElem h]
   have q0 := @h; have q1 := @decide_true; have q2 := @decide_false; refine uS (eX x.fSchema x.fFiles[k] (by unfold bH; omega) (by omega)) ?_
   cases hm : dS x.fSchema x.fFiles[k]
   ·rw [hm] at hr
    simp only [go_sem, hm]
    have q0 := @h; have q1 := @decide_true; have q2 := @decide_false; have q3 := @hm; refine jX ?_
    have hf : bD x = false := by
     unfold bD
     rw [hq, hr]; simp
    exact aA ⟨⟨_, rfl, by simp only [go_sem, hf]⟩, trivial⟩
   ·rw [hm] at hr
    simp only [go_sem, hm]
    have q0 := @h; have q1 := @decide_true; have q2 := @decide_false; have q3 := @hm; refine a2F (eX x.fSchema x.fFiles[k] (by unfold bH; omega) (by omega)) ?_
    by_cases hn : x.fNextID ≤ x.fFiles[k].fID
    ·simp only [hn, decide_true] at hr
     simp only [go_sem, hn, decide_true]
     have q0 := @h; have q1 := @decide_true; have q2 := @decide_false; have q3 := @hm; have q4 := @hn; refine tO ?_
     have hf : bD x = false := by
      unfold bD
      rw [hq, hr]; simp
     exact aA ⟨⟨_, rfl, by simp only [go_sem, hf]⟩, trivial⟩
    ·simp only [hn, decide_false] at hr
     simp only [go_sem, hn, decide_false]
     have q0 := @h; have q1 := @decide_true; have q2 := @decide_false; have q3 := @hm; have q4 := @hn; refine a1I (eX x.fSchema x.fFiles[k] (by unfold bH; omega) (by omega)) ?_
     by_cases hk0 : 0 < k
     ·have hki : (0 : Int) < (k : Int) := by omega
      have hkx : (k : Int) - 1 = ((k - 1 : Nat) : Int) := by omega
      have hkl : k - 1 < x.fFiles.length := by omega
      rw [pF x.fFiles k hk0 h] at hr
      simp only [go_sem, hki, hkx, hkl, decide_true]
      have q0 := @h; have q1 := @decide_true; have q2 := @decide_false; have q3 := @hm; have q4 := @hn; have q5 := @hki; have q6 := @hkx; have q7 := @hkl; refine a2H (eX x.fSchema x.fFiles[k] (by unfold bH; omega) (by omega)) ?_
      by_cases ho : x.fFiles[k].fID ≤ x.fFiles[k - 1].fID
      ·simp only [ho, decide_true] at hr
       simp only [go_sem, ho, decide_true]
       have q0 := @h; have q1 := @decide_true; have q2 := @decide_false; have q3 := @hm; have q4 := @hn; have q5 := @hki; have q6 := @hkx; have q7 := @hkl; have q8 := @ho; refine a0G ?_
       have hf : bD x = false := by
        unfold bD
        rw [hq, hr]; simp
       exact aA ⟨⟨_, rfl, by simp only [go_sem, hf]⟩, trivial⟩
      ·simp only [ho, decide_false] at hr
       simp only [go_sem, ho, decide_false]
       have q0 := @h; have q1 := @decide_true; have q2 := @decide_false; have q3 := @hm; have q4 := @hn; have q5 := @hki; have q6 := @hkx; have q7 := @hkl; have q8 := @ho; refine b0U (eX x.fSchema x.fFiles[k] (by unfold bH; omega) (by omega)) ?_
       refine aF (k + 1) ?_ ?_ ?_
       ·simp only [go_sem]; simp
       ·refine ⟨h, ?_⟩
        rw [hq, hr]; simp
       ·omega
     ·have hki : ¬ (0 : Int) < (k : Int) := by omega
      rw [a2Y x.fFiles k hk0] at hr
      simp only [go_sem, hki, decide_false]
      have q0 := @h; have q1 := @decide_true; have q2 := @decide_false; have q3 := @hm; have q4 := @hn; have q5 := @hki; refine a1J (eX x.fSchema x.fFiles[k] (by unfold bH; omega) (by omega)) ?_
      refine aF (k + 1) ?_ ?_ ?_
      ·simp only [go_sem]; simp
      ·refine ⟨h, ?_⟩
       rw [hq, hr]; simp
      ·omega
  ·simp only [decide_eq_false_iff_not] at h
   have e : k = x.fFiles.length := by omega
   have hq' : (List.range x.fFiles.length).all (gP x) = true := by
    rw [hq, List.drop_of_length_le (by simp [e])]; rfl
   have hr : bD x = (okSchema x.fSchema && (decide ((x.fFiles.length : Int) ≤ 12) && inB x.fNextID 1 61)) := by unfold bD; rw [hq']; simp only [Bool.true_and]
   have q0 := @decide_true; have q1 := @decide_false; refine zT (gV x.fSchema (by unfold bH; omega)) (bP x.fNextID 1 61) ?_
   cases h0 : okSchema x.fSchema
   ·rw [h0] at hr
    simp only [go_sem, h0]
    have q0 := @decide_true; have q1 := @decide_false; have q2 := @h0; refine jQ ?_
    exact aA ⟨⟨_, rfl, by simp only [go_sem, hr, bT, decide_true, decide_false]⟩, trivial⟩
   ·rw [h0] at hr
    simp only [go_sem, h0]
    have q0 := @decide_true; have q1 := @decide_false; have q2 := @h0; refine a5E (gV x.fSchema (by unfold bH; omega)) (bP x.fNextID 1 61) ?_
    by_cases h1 : (x.fFiles.length : Int) ≤ 12
    ·simp only [h1, decide_true] at hr
     simp only [go_sem, h1, decide_true]
     have q0 := @decide_true; have q1 := @decide_false; have q2 := @h0; have q3 := @h1; refine a2G (gV x.fSchema (by unfold bH; omega)) (bP x.fNextID 1 61) ?_
     exact aA ⟨⟨_, rfl, by simp only [go_sem, hr, bT, decide_true, decide_false]⟩, trivial⟩
    ·simp only [h1, decide_false] at hr
     simp only [go_sem, h1, decide_false]
     have q0 := @decide_true; have q1 := @decide_false; have q2 := @h0; have q3 := @h1; refine jX ?_
     exact aA ⟨⟨_, rfl, by simp only [go_sem, hr, bT, decide_true, decide_false]⟩, trivial⟩
theorem a0i (d : List TDir) (hd : gN d ≤ 4300000) : FnC Tryz.prog 142 [.o (.d (.sl (d.map dG)))] (ob (dU d)) := by
 unfold gN at hd
 refine ent Tryz.func142 rfl Tryz.call142 rfl (fun C => ?_); simp only [go_sem, st0, Tryz.ntmps142]
 refine aD ?_
 refine aY (α := Nat) (fun k => [(3, oi k)]) (fun _ => []) (fun k => k ≤ d.length ∧ (List.range d.length).all (jK d) = ((List.range d.length).drop k).all (jK d)) (fun k => d.length - k) 0 (fun _ => ?_) ?_ ?_ (fun k hk => ?_)
 ·simp only [go_sem]
 ·simp only [go_sem]; simp
 ·simp
 ·obtain ⟨hk, hq⟩ := hk
  simp only [go_sem]
  refine aD ?_
  refine cnd rfl (fun h => ?_) (fun h => ?_)
  ·simp only [decide_eq_true_eq, Int.ofNat_lt] at h
   have h' : k < (List.range d.length).length := by simpa using h
   have hd := List.drop_eq_getElem_cons h'
   rw [hd, List.all_cons, List.getElem_range] at hq
   have hw := dD lW d h
   have hw1 : d[k].fName.size + eU d[k].fQuery ≤ lW d[k] := by unfold lW; omega
   have hr : jK d k = (bV d[k].fName 6 && (okQ d[k].fQuery && mQ TDir.fName d k)) := by unfold jK; rw [List.getElem?_eq_getElem h, Bool.and_comm (okQ d[k].fQuery)]
   have q0 := @h; have q1 := @decide_true; have q2 := @decide_false; refine a5E (bN d[k].fName (by omega)) (dI d[k].fQuery (by omega)) ?_
   cases ht : bV d[k].fName 6
   ·rw [ht] at hr
    simp only [go_sem, ht]
    have q0 := @h; have q1 := @decide_true; have q2 := @decide_false; have q3 := @ht; refine jX ?_
    have hf : dU d = false := by
     unfold dU
     rw [hq, hr]; simp
    exact aA ⟨⟨_, rfl, by simp only [go_sem, hf]⟩, trivial⟩
   ·rw [ht] at hr
    simp only [go_sem, ht]
    have q0 := @h; have q1 := @decide_true; have q2 := @decide_false; have q3 := @ht; refine a2G (bN d[k].fName (by omega)) (dI d[k].fQuery (by omega)) ?_
    cases hv : okQ d[k].fQuery
    ·rw [hv] at hr
     simp only [go_sem, hv]
     have q0 := @h; have q1 := @decide_true; have q2 := @decide_false; have q3 := @ht; have q4 := @hv; refine tO ?_
     have hf : dU d = false := by
      unfold dU
      rw [hq, hr]; simp
     exact aA ⟨⟨_, rfl, by simp only [go_sem, hf]⟩, trivial⟩
    ·rw [hv] at hr
     simp only [go_sem, hv]
     have q0 := @h; have q1 := @decide_true; have q2 := @decide_false; have q3 := @ht; have q4 := @hv; refine b0T (bN d[k].fName (by omega)) (dI d[k].fQuery (by omega)) ?_
     by_cases hk0 : 0 < k
     ·have hki : (0 : Int) < (k : Int) := by omega
      have hkx : (k : Int) - 1 = ((k - 1 : Nat) : Int) := by omega
      have hkl : k - 1 < d.length := by omega
      rw [lX TDir.fName d k hk0 h] at hr
      simp only [go_sem, hki, hkx, hkl, decide_true]
      have q0 := @h; have q1 := @decide_true; have q2 := @decide_false; have q3 := @ht; have q4 := @hv; have q5 := @hki; have q6 := @hkx; have q7 := @hkl; refine b2r (bN d[k].fName (by omega)) (dI d[k].fQuery (by omega)) ?_
      cases ho : dW (TDir.fName d[k - 1]) (TDir.fName d[k])
      ·rw [ho] at hr
       simp only [go_sem, ho]
       have q0 := @h; have q1 := @decide_true; have q2 := @decide_false; have q3 := @ht; have q4 := @hv; have q5 := @hki; have q6 := @hkx; have q7 := @hkl; have q8 := @ho; refine a0G ?_
       have hf : dU d = false := by
        unfold dU
        rw [hq, hr]; simp
       exact aA ⟨⟨_, rfl, by simp only [go_sem, hf]⟩, trivial⟩
      ·rw [ho] at hr
       simp only [go_sem, ho]
       have q0 := @h; have q1 := @decide_true; have q2 := @decide_false; have q3 := @ht; have q4 := @hv; have q5 := @hki; have q6 := @hkx; have q7 := @hkl; have q8 := @ho; refine a6T (bN d[k].fName (by omega)) (dI d[k].fQuery (by omega)) ?_
       refine aF (k + 1) ?_ ?_ ?_
       ·simp only [go_sem]; simp
       ·refine ⟨h, ?_⟩
        rw [hq, hr]; simp
       ·omega
     ·have hki : ¬ (0 : Int) < (k : Int) := by omega
      rw [uE TDir.fName d k hk0] at hr
      simp only [go_sem, hki, decide_false]
      have q0 := @h; have q1 := @decide_true; have q2 := @decide_false; have q3 := @ht; have q4 := @hv; have q5 := @hki; refine a3E (bN d[k].fName (by omega)) (dI d[k].fQuery (by omega)) ?_
      refine aF (k + 1) ?_ ?_ ?_
      ·simp only [go_sem]; simp
      ·refine ⟨h, ?_⟩
       rw [hq, hr]; simp
      ·omega
  ·simp only [decide_eq_false_iff_not] at h
   have e : k = d.length := by omega
   have hq' : (List.range d.length).all (jK d) = true := by
    rw [hq, List.drop_of_length_le (by simp [e])]; rfl
   have hr : dU d = decide ((d.length : Int) ≤ 5) := by unfold dU; rw [hq']; simp only [Bool.true_and]
   have q0 := @decide_true; have q1 := @decide_false; refine fM ?_
   exact aA ⟨⟨_, rfl, by simp only [go_sem, hr, bT, decide_true, decide_false]⟩, trivial⟩
end Go.Proofs.YtakopfjdmmnjcaaGreat
end
section
namespace Go.Proofs.YtakopfjdmmnjcaaGreat
open Go Go.Sx Go.RowKit Go.Proofs
theorem fE {x : TStore} : bD x = true ↔ (∀ k, k < x.fFiles.length → gP x k = true) ∧ okSchema x.fSchema = true ∧ x.fFiles.length ≤ 12 ∧ 1 ≤ x.fNextID ∧ x.fNextID ≤ 61 := by
 unfold bD inB
 simp only [Bool.and_eq_true, List.all_eq_true, List.mem_range, decide_eq_true_eq]
 constructor
 ·rintro ⟨h1, h2, h3, h4, h5⟩; exact ⟨h1, h2, by omega, h4, h5⟩
 ·rintro ⟨h1, h2, h3, h4, h5⟩; exact ⟨h1, h2, by omega, h4, h5⟩
theorem fC {x : TStore} {k : Nat} (h : k < x.fFiles.length) : gP x k = true ↔ dS x.fSchema x.fFiles[k] = true ∧ x.fFiles[k].fID < x.fNextID ∧ a5O x.fFiles k = true := by
 unfold gP
 rw [List.getElem?_eq_getElem h]
 simp only [Bool.and_eq_true, Bool.not_eq_true', decide_eq_false_iff_not, Int.not_le]
theorem a4D {s : List TField} {f : TFile} (h : dS s f = true) : 1 ≤ f.fID ∧ f.fID ≤ 60 := by
 unfold dS inB at h
 simp only [Bool.and_eq_true, decide_eq_true_eq] at h
 exact h.2.1
def mkF (s : TStore) (f : TFile) : TFile := { f with fID := s.fNextID }
def lN (s : TStore) (f : TFile) : Bool := bD s && (decide (s.fFiles.length < 12) && dS s.fSchema (mkF s f))
def creS (s : TStore) (f : TFile) : TStore := if lN s f then ⟨s.fSchema, s.fFiles ++ [mkF s f], s.fNextID + 1⟩ else s
def a8S (s : TStore) (f : TFile) : Int := if lN s f then s.fNextID else 0
theorem a4E {s : TStore} {f : TFile} : lN s f = true ↔ bD s = true ∧ s.fFiles.length < 12 ∧ dS s.fSchema (mkF s f) = true := by
 unfold lN; simp only [Bool.and_eq_true, decide_eq_true_eq]
theorem b6m {s : TStore} {f : TFile} (h : lN s f = true) : bD (creS s f) = true := by
 obtain ⟨hs, hl, hf⟩ := a4E.1 h
 obtain ⟨h1, h2, h3, h4, h5⟩ := fE.1 hs
 have hid := a4D hf
 have hid2 : 1 ≤ s.fNextID ∧ s.fNextID ≤ 60 := hid
 unfold creS
 rw [if_pos h]
 refine fE.2 ⟨fun k hk => ?_, h2, by simp; omega, by simp only; omega, by simp only; omega⟩
 rw [fC hk]
 simp only [List.length_append, List.length_cons, List.length_nil] at hk
 by_cases e : k < s.fFiles.length
 ·obtain ⟨q1, q2, q3⟩ := (fC e).1 (h1 k e)
  refine ⟨by simp only [List.getElem_append_left e]; exact q1, by simp only [List.getElem_append_left e]; omega, ?_⟩
  by_cases h0 : 0 < k
  ·rw [pF _ _ h0 (by simp; omega)]
   rw [pF _ _ h0 e] at q3
   simpa only [List.getElem_append_left e, List.getElem_append_left (show k - 1 < s.fFiles.length by omega)] using q3
  ·exact a2Y _ _ h0
 ·have ek : k = s.fFiles.length := by omega
  subst ek
  refine ⟨by simpa using hf, by simp [mkF]; omega, ?_⟩
  by_cases h0 : 0 < s.fFiles.length
  ·rw [pF _ _ h0 (by simp)]
   have e1 : s.fFiles.length - 1 < s.fFiles.length := by omega
   have q := ((fC e1).1 (h1 _ e1)).2.1
   simp only [List.getElem_append_left e1, List.getElem_append_right (Nat.le_refl _), Nat.sub_self, List.getElem_cons_zero, mkF, Bool.not_eq_true', decide_eq_false_iff_not]
   omega
  ·exact a2Y _ _ h0
theorem b6n (s : TStore) (f : TFile) : aJ (creS s f) ≤ aJ s + bA f + 1 := by
 unfold creS
 split
 ·unfold aJ eF
  simp only [List.length_append, List.length_cons, List.length_nil]
  have : bI bA (s.fFiles ++ [mkF s f]) = bI bA s.fFiles + bA f := by
   have key : ∀ l : List TFile, bI bA (l ++ [mkF s f]) = bI bA l + bA f := by
    intro l
    induction l with
    | nil => simp [bI, bA, mkF]
    | cons x l ih => simp only [List.cons_append, bI, ih]; omega
   exact key _
  rw [this]; omega
 ·omega
end Go.Proofs.YtakopfjdmmnjcaaGreat
end
