/- Joined texts. -/
import Derived.Test.YtakopfjdmmnjcaaDoorZ09
import Derived.Test.YtakopfjdmmnjcaaDoorZ06
import Derived.Test.YtakopfjdmmnjcaaDoorZ08
import Derived.Test.YtakopfjdmmnjcaaDoorZ07
set_option linter.all false
section
set_option maxRecDepth 100000
set_option maxHeartbeats 4000000
namespace Go.Proofs.YtakopfjdmmnjcaaDoor
open Go Go.Sx Go.RowKit Go.Proofs
def lC {α : Type} (g : α → ByteArray) (l : List α) (k : Nat) : Bool := decide (k = 0) || (match l[k - 1]?, l[k]? with
 | some p, some x => bS (g p) (g x)
 | _, _ => true)
theorem a3F {α : Type} (g : α → ByteArray) (l : List α) (k : Nat) (h : ¬ 0 < k) : lC g l k = true := by
 have e : k = 0 := by omega
 simp [lC, e]
theorem zA {α : Type} (g : α → ByteArray) (l : List α) (k : Nat) (h : 0 < k) (hl : k < l.length) : lC g l k = bS (g (l[k - 1]'(by omega))) (g l[k]) := by
 have h1 : k - 1 < l.length := by omega
 have e : ¬ k = 0 := by omega
 simp [lC, e, List.getElem?_eq_getElem h1, List.getElem?_eq_getElem hl]
def a1K (l : List TFile) (k : Nat) : Bool := decide (k = 0) || (match l[k - 1]?, l[k]? with
 | some p, some x => !decide (x.fID ≤ p.fID)
 | _, _ => true)
theorem a0B (l : List TFile) (k : Nat) (h : ¬ 0 < k) : a1K l k = true := by
 have e : k = 0 := by omega
 simp [a1K, e]
theorem lD (l : List TFile) (k : Nat) (h : 0 < k) (hl : k < l.length) : a1K l k = !decide (l[k].fID ≤ (l[k - 1]'(by omega)).fID) := by
 have h1 : k - 1 < l.length := by omega
 have e : ¬ k = 0 := by omega
 simp only [a1K, e, decide_false, Bool.false_or, List.getElem?_eq_getElem h1, List.getElem?_eq_getElem hl]
def fZ (s : ByteArray) : List TField → Int
 | [] => 0
 | f :: l => if f.fName = s then f.fKind else fZ s l
theorem xA (s : ByteArray) (l : List TField) (k : Nat) (h : k < l.length) : fZ s (l.drop k) = if l[k].fName = s then l[k].fKind else fZ s (l.drop (k + 1)) := by
 rw [List.drop_eq_getElem_cons h]; rfl
def iV (s : List TField) (k : Nat) : Bool := match s[k]? with
 | none => true
 | some f => dK f.fName 1 && (inB f.fKind 1 2 && lC TField.fName s k)
def okSchema (s : List TField) : Bool := (List.range s.length).all (iV s) && decide ((s.length : Int) ≤ 5)
def jN (s : List TField) (n : ByteArray) (v : TValue) : Bool := eB v && (!decide (v.fKind = 0) && decide (v.fKind = fZ n s))
def fC (s : List TField) (l : List TAttr) (k : Nat) : Bool := match l[k]? with
 | none => true
 | some a => lC TAttr.fName l k && jN s a.fName a.fValue
def dX (s : List TField) (f : TFile) : Bool := (List.range f.fAttrs.length).all (fC s f.fAttrs) && (inB f.fID 1 60 && (inB f.fOwner 0 2 && (inB f.fLink 0 60 && okSchema s)))
def gK (x : TStore) (k : Nat) : Bool := match x.fFiles[k]? with
 | none => true
 | some f => dX x.fSchema f && (!decide (x.fNextID ≤ f.fID) && a1K x.fFiles k)
def bV (x : TStore) : Bool := (List.range x.fFiles.length).all (gK x) && (okSchema x.fSchema && (decide ((x.fFiles.length : Int) ≤ 12) && inB x.fNextID 1 61))
def a7b (d : List TDir) (k : Nat) : Bool := match d[k]? with
 | none => true
 | some x => dK x.fName 6 && (lC TDir.fName d k && okQ x.fQuery)
def b0S (d : List TDir) : Bool := (List.range d.length).all (a7b d) && decide ((d.length : Int) ≤ 5)
theorem gW (l : List TField) (s : ByteArray) (hl : l.length ≤ 4300000) : FnC Tryd.prog 66 [.o (.d (.sl (l.map bZ))), os s] (oi (fZ s l)) := by
 generalize hg : fZ s l = res
 refine ent Tryd.func66 rfl Tryd.call66 rfl (fun C => ?_); simp only [go_sem, st0, Tryd.ntmps66]
 refine aL ?_
 refine bX (α := Nat) (fun k => [(5, oi k)]) (fun k => []) (fun k => k ≤ l.length ∧ fZ s (l.drop k) = res) (fun k => l.length - k) 0 (fun _ => ?_) ?_ ?_ (fun k hk => ?_)
 ·simp only [go_sem]
 ·simp only [go_sem]; simp
 ·simp [hg]
 ·simp only [go_sem]
  obtain ⟨hk, hq⟩ := hk
  refine aL ?_
  refine cnd rfl (fun h1 => ?_) (fun h1 => ?_)
  ·simp only [decide_eq_true_eq, Int.ofNat_lt] at h1
   rw [xA s l k h1] at hq
   by_cases hv : l[k].fName = s
   ·rw [if_pos hv] at hq
    have q0 := @h1; have q1 := @hv; have q2 := @decide_true; refine rM ?_
    exact aA ⟨⟨_, rfl, by simp only [go_sem, hq]⟩, trivial⟩
   ·rw [if_neg hv] at hq
    have q0 := @h1; have q1 := @hv; have q2 := @decide_false; refine rM ?_
    refine bF (k + 1) ?_ ?_ ?_
    ·simp only [go_sem]; simp
    ·exact ⟨by omega, hq⟩
    ·omega
  ·simp only [decide_eq_false_iff_not] at h1
   have e : k = l.length := by omega
   subst e
   rw [List.drop_length] at hq
   have hn : res = 0 := hq.symm
   subst hn
   refine aL ?_
   exact aA ⟨⟨_, rfl, by simp only [go_sem]⟩, trivial⟩
theorem fD (s : List TField) (n : ByteArray) (v : TValue) (hl : s.length ≤ 4300000) (hs : v.fStr.size ≤ 4300000) : FnC Tryd.prog 50 [.o (.d (.sl (s.map bZ))), os n, eT v] (ob (jN s n v)) := by
 have hr : jN s n v = (eB v && (!decide (v.fKind = 0) && decide (v.fKind = fZ n s))) := rfl
 refine ent Tryd.func50 rfl Tryd.call50 rfl (fun C => ?_); simp only [go_sem, st0, Tryd.ntmps50]
 have q0 := @decide_true; have q1 := @decide_false; refine a6B (fG v hs) (gW s n hl) ?_
 cases hv : eB v
 ·rw [hv] at hr
  simp only [go_sem, hv]
  have q0 := @decide_true; have q1 := @decide_false; have q2 := @hv; refine rM ?_
  exact aA ⟨⟨_, rfl, by simp only [go_sem, hr, bT, decide_true, decide_false]⟩, trivial⟩
 ·rw [hv] at hr
  simp only [go_sem, hv]
  have q0 := @decide_true; have q1 := @decide_false; have q2 := @hv; refine a6D (fG v hs) (gW s n hl) ?_
  by_cases hk : v.fKind = 0
  ·simp only [hk, decide_true] at hr
   simp only [go_sem, hk, decide_true]
   have q0 := @decide_true; have q1 := @decide_false; have q2 := @hv; have q3 := @hk; refine pY ?_
   exact aA ⟨⟨_, rfl, by simp only [go_sem, hr, bT, decide_true, decide_false]⟩, trivial⟩
  ·simp only [hk, decide_false] at hr
   simp only [go_sem, hk, decide_false]
   have q0 := @decide_true; have q1 := @decide_false; have q2 := @hv; have q3 := @hk; refine a4i (fG v hs) (gW s n hl) ?_
   exact aA ⟨⟨_, rfl, by simp only [go_sem, hr, bT, decide_true, decide_false]⟩, trivial⟩
theorem dL (s : List TField) (hl : bR s ≤ 4300000) : FnC Tryd.prog 30 [.o (.d (.sl (s.map bZ)))] (ob (okSchema s)) := by
 unfold bR at hl
 refine ent Tryd.func30 rfl Tryd.call30 rfl (fun C => ?_); simp only [go_sem, st0, Tryd.ntmps30]
 refine aL ?_
 refine bX (α := Nat) (fun k => [(3, oi k)]) (fun _ => []) (fun k => k ≤ s.length ∧ (List.range s.length).all (iV s) = ((List.range s.length).drop k).all (iV s)) (fun k => s.length - k) 0 (fun _ => ?_) ?_ ?_ (fun k hk => ?_)
 ·simp only [go_sem]
 ·simp only [go_sem]; simp
 ·simp
 ·obtain ⟨hk, hq⟩ := hk
  simp only [go_sem]
  refine aL ?_
  refine cnd rfl (fun h => ?_) (fun h => ?_)
  ·simp only [decide_eq_true_eq, Int.ofNat_lt] at h
   have h' : k < (List.range s.length).length := by simpa using h
   have hd := List.drop_eq_getElem_cons h'
   rw [hd, List.all_cons, List.getElem_range] at hq
   have hw := eD a0o s h
   have hw1 : s[k].fName.size ≤ a0o s[k] := by unfold a0o; omega
   have hr : iV s k = (dK s[k].fName 1 && (inB s[k].fKind 1 2 && lC TField.fName s k)) := by unfold iV; rw [List.getElem?_eq_getElem h]
   have q0 := @h; have q1 := @decide_true; have q2 := @decide_false; refine a6D (bI s[k].fName (by omega)) (bB s[k].fKind 1 2) ?_
   cases ht : dK s[k].fName 1
   ·rw [ht] at hr
    simp only [go_sem, ht]
    have q0 := @h; have q1 := @decide_true; have q2 := @decide_false; have q3 := @ht; refine pY ?_
    have hf : okSchema s = false := by
     unfold okSchema
     rw [hq, hr]; simp
    exact aA ⟨⟨_, rfl, by simp only [go_sem, hf]⟩, trivial⟩
   ·rw [ht] at hr
    simp only [go_sem, ht]
    have q0 := @h; have q1 := @decide_true; have q2 := @decide_false; have q3 := @ht; refine a4i (bI s[k].fName (by omega)) (bB s[k].fKind 1 2) ?_
    cases hb : inB s[k].fKind 1 2
    ·rw [hb] at hr
     simp only [go_sem, hb]
     have q0 := @h; have q1 := @decide_true; have q2 := @decide_false; have q3 := @ht; have q4 := @hb; refine a4j ?_
     have hf : okSchema s = false := by
      unfold okSchema
      rw [hq, hr]; simp
     exact aA ⟨⟨_, rfl, by simp only [go_sem, hf]⟩, trivial⟩
    ·rw [hb] at hr
     simp only [go_sem, hb]
     have q0 := @h; have q1 := @decide_true; have q2 := @decide_false; have q3 := @ht; have q4 := @hb; refine b0o (bI s[k].fName (by omega)) (bB s[k].fKind 1 2) ?_
     by_cases hk0 : 0 < k
     ·have hki : (0 : Int) < (k : Int) := by omega
      have hkx : (k : Int) - 1 = ((k - 1 : Nat) : Int) := by omega
      have hkl : k - 1 < s.length := by omega
      rw [zA TField.fName s k hk0 h] at hr
      simp only [go_sem, hki, hkx, hkl, decide_true]
      have q0 := @h; have q1 := @decide_true; have q2 := @decide_false; have q3 := @ht; have q4 := @hb; have q5 := @hki; have q6 := @hkx; have q7 := @hkl; refine b0s (bI s[k].fName (by omega)) (bB s[k].fKind 1 2) ?_
      cases ho : bS (TField.fName s[k - 1]) (TField.fName s[k])
      ·rw [ho] at hr
       simp only [go_sem, ho]
       have q0 := @h; have q1 := @decide_true; have q2 := @decide_false; have q3 := @ht; have q4 := @hb; have q5 := @hki; have q6 := @hkx; have q7 := @hkl; have q8 := @ho; refine a8W ?_
       have hf : okSchema s = false := by
        unfold okSchema
        rw [hq, hr]; simp
       exact aA ⟨⟨_, rfl, by simp only [go_sem, hf]⟩, trivial⟩
      ·rw [ho] at hr
       simp only [go_sem, ho]
       have q0 := @h; have q1 := @decide_true; have q2 := @decide_false; have q3 := @ht; have q4 := @hb; have q5 := @hki; have q6 := @hkx; have q7 := @hkl; have q8 := @ho; refine b0u (bI s[k].fName (by omega)) (bB s[k].fKind 1 2) ?_
       refine bF (k + 1) ?_ ?_ ?_
       ·simp only [go_sem]; simp
       ·refine ⟨h, ?_⟩
        rw [hq, hr]; simp
       ·omega
     ·have hki : ¬ (0 : Int) < (k : Int) := by omega
      rw [a3F TField.fName s k hk0] at hr
      simp only [go_sem, hki, decide_false]
      have q0 := @h; have q1 := @decide_true; have q2 := @decide_false; have q3 := @ht; have q4 := @hb; have q5 := @hki; refine b0q (bI s[k].fName (by omega)) (bB s[k].fKind 1 2) ?_
      refine bF (k + 1) ?_ ?_ ?_
      ·simp only [go_sem]; simp
      ·refine ⟨h, ?_⟩
       rw [hq, hr]; simp
      ·omega
  ·simp only [decide_eq_false_iff_not] at h
   have e : k = s.length := by omega
   have hq' : (List.range s.length).all (iV s) = true := by
    rw [hq, List.drop_of_length_le (by simp [e])]; rfl
   have hr : okSchema s = decide ((s.length : Int) ≤ 5) := by unfold okSchema; rw [hq']; simp only [Bool.true_and]
   have q0 := @decide_true; have q1 := @decide_false; refine iK ?_
   exact aA ⟨⟨_, rfl, by simp only [go_sem, hr, bT, decide_true, decide_false]⟩, trivial⟩
theorem dR (s : List TField) (f : TFile) (hl : bR s ≤ 4300000) (hf : dC f ≤ 4300000) : FnC Tryd.prog 29 [.o (.d (.sl (s.map bZ))), mI f] (ob (dX s f)) := by
 unfold bR at hl
 unfold dC iM at hf
 refine ent Tryd.func29 rfl Tryd.call29 rfl (fun C => ?_); simp only [go_sem, st0, Tryd.ntmps29]
 refine aL ?_
 refine bX (α := Nat) (fun k => [(5, oi k)]) (fun _ => []) (fun k => k ≤ f.fAttrs.length ∧ (List.range f.fAttrs.length).all (fC s f.fAttrs) = ((List.range f.fAttrs.length).drop k).all (fC s f.fAttrs)) (fun k => f.fAttrs.length - k) 0 (fun _ => ?_) ?_ ?_ (fun k hk => ?_)
 ·simp only [go_sem]
 ·simp only [go_sem]; simp
 ·simp
 ·obtain ⟨hk, hq⟩ := hk
  simp only [go_sem]
  refine aL ?_
  refine cnd rfl (fun h => ?_) (fun h => ?_)
  ·simp only [decide_eq_true_eq, Int.ofNat_lt] at h
   have h' : k < (List.range f.fAttrs.length).length := by simpa using h
   have hd := List.drop_eq_getElem_cons h'
   rw [hd, List.all_cons, List.getElem_range] at hq
   have hw := eD kH f.fAttrs h
   have hw1 : f.fAttrs[k].fName.size + f.fAttrs[k].fValue.fStr.size ≤ kH f.fAttrs[k] := by unfold kH fO; omega
   have hr : fC s f.fAttrs k = (jN s f.fAttrs[k].fName f.fAttrs[k].fValue && lC TAttr.fName f.fAttrs k) := by unfold fC; rw [List.getElem?_eq_getElem h]; exact Bool.and_comm _ _
   have q0 := @h; have q1 := @decide_true; have q2 := @decide_false; refine a6C (fD s f.fAttrs[k].fName f.fAttrs[k].fValue (by omega) (by omega)) ?_
   cases hm : jN s f.fAttrs[k].fName f.fAttrs[k].fValue
   ·rw [hm] at hr
    simp only [go_sem, hm]
    have q0 := @h; have q1 := @decide_true; have q2 := @decide_false; have q3 := @hm; refine pY ?_
    have hf : dX s f = false := by
     unfold dX
     rw [hq, hr]; simp
    exact aA ⟨⟨_, rfl, by simp only [go_sem, hf]⟩, trivial⟩
   ·rw [hm] at hr
    simp only [go_sem, hm]
    have q0 := @h; have q1 := @decide_true; have q2 := @decide_false; have q3 := @hm; refine a8U (fD s f.fAttrs[k].fName f.fAttrs[k].fValue (by omega) (by omega)) ?_
    by_cases hk0 : 0 < k
    ·have hki : (0 : Int) < (k : Int) := by omega
     have hkx : (k : Int) - 1 = ((k - 1 : Nat) : Int) := by omega
     have hkl : k - 1 < f.fAttrs.length := by omega
     rw [zA TAttr.fName f.fAttrs k hk0 h] at hr
     simp only [go_sem, hki, hkx, hkl, decide_true]
     have q0 := @h; have q1 := @decide_true; have q2 := @decide_false; have q3 := @hm; have q4 := @hki; have q5 := @hkx; have q6 := @hkl; refine b0r (fD s f.fAttrs[k].fName f.fAttrs[k].fValue (by omega) (by omega)) ?_
     cases ho : bS (TAttr.fName f.fAttrs[k - 1]) (TAttr.fName f.fAttrs[k])
     ·rw [ho] at hr
      simp only [go_sem, ho]
      have q0 := @h; have q1 := @decide_true; have q2 := @decide_false; have q3 := @hm; have q4 := @hki; have q5 := @hkx; have q6 := @hkl; have q7 := @ho; refine a7Q ?_
      have hf : dX s f = false := by
       unfold dX
       rw [hq, hr]; simp
      exact aA ⟨⟨_, rfl, by simp only [go_sem, hf]⟩, trivial⟩
     ·rw [ho] at hr
      simp only [go_sem, ho]
      have q0 := @h; have q1 := @decide_true; have q2 := @decide_false; have q3 := @hm; have q4 := @hki; have q5 := @hkx; have q6 := @hkl; have q7 := @ho; refine a8V (fD s f.fAttrs[k].fName f.fAttrs[k].fValue (by omega) (by omega)) ?_
      refine bF (k + 1) ?_ ?_ ?_
      ·simp only [go_sem]; simp
      ·refine ⟨h, ?_⟩
       rw [hq, hr]; simp
      ·omega
    ·have hki : ¬ (0 : Int) < (k : Int) := by omega
     rw [a3F TAttr.fName f.fAttrs k hk0] at hr
     simp only [go_sem, hki, decide_false]
     have q0 := @h; have q1 := @decide_true; have q2 := @decide_false; have q3 := @hm; have q4 := @hki; refine a4k (fD s f.fAttrs[k].fName f.fAttrs[k].fValue (by omega) (by omega)) ?_
     refine bF (k + 1) ?_ ?_ ?_
     ·simp only [go_sem]; simp
     ·refine ⟨h, ?_⟩
      rw [hq, hr]; simp
     ·omega
  ·simp only [decide_eq_false_iff_not] at h
   have e : k = f.fAttrs.length := by omega
   have hq' : (List.range f.fAttrs.length).all (fC s f.fAttrs) = true := by
    rw [hq, List.drop_of_length_le (by simp [e])]; rfl
   have hr : dX s f = (okSchema s && (inB f.fID 1 60 && (inB f.fOwner 0 2 && inB f.fLink 0 60))) := by unfold dX; rw [hq']; simp only [Bool.true_and]; cases okSchema s <;> simp
   have q0 := @decide_true; have q1 := @decide_false; refine b0l (bB f.fID 1 60) (bB f.fOwner 0 2) (bB f.fLink 0 60) (dL s (by unfold bR; omega)) ?_
   cases h0 : okSchema s
   ·rw [h0] at hr
    simp only [go_sem, h0]
    have q0 := @decide_true; have q1 := @decide_false; have q2 := @h0; refine rM ?_
    exact aA ⟨⟨_, rfl, by simp only [go_sem, hr, bT, decide_true, decide_false]⟩, trivial⟩
   ·rw [h0] at hr
    simp only [go_sem, h0]
    have q0 := @decide_true; have q1 := @decide_false; have q2 := @h0; refine b0m (bB f.fID 1 60) (bB f.fOwner 0 2) (bB f.fLink 0 60) (dL s (by unfold bR; omega)) ?_
    cases h1 : inB f.fID 1 60
    ·rw [h1] at hr
     simp only [go_sem, h1]
     have q0 := @decide_true; have q1 := @decide_false; have q2 := @h0; have q3 := @h1; refine pY ?_
     exact aA ⟨⟨_, rfl, by simp only [go_sem, hr, bT, decide_true, decide_false]⟩, trivial⟩
    ·rw [h1] at hr
     simp only [go_sem, h1]
     have q0 := @decide_true; have q1 := @decide_false; have q2 := @h0; have q3 := @h1; refine b0n (bB f.fID 1 60) (bB f.fOwner 0 2) (bB f.fLink 0 60) (dL s (by unfold bR; omega)) ?_
     cases h2 : inB f.fOwner 0 2
     ·rw [h2] at hr
      simp only [go_sem, h2]
      have q0 := @decide_true; have q1 := @decide_false; have q2 := @h0; have q3 := @h1; have q4 := @h2; refine a4j ?_
      exact aA ⟨⟨_, rfl, by simp only [go_sem, hr, bT, decide_true, decide_false]⟩, trivial⟩
     ·rw [h2] at hr
      simp only [go_sem, h2]
      have q0 := @decide_true; have q1 := @decide_false; have q2 := @h0; have q3 := @h1; have q4 := @h2; refine b0p (bB f.fID 1 60) (bB f.fOwner 0 2) (bB f.fLink 0 60) (dL s (by unfold bR; omega)) ?_
      exact aA ⟨⟨_, rfl, by simp only [go_sem, hr, bT, decide_true, decide_false]⟩, trivial⟩
theorem bW (x : TStore) (hx : bM x ≤ 4300000) : FnC Tryd.prog 9 [fA x] (ob (bV x)) := by
 unfold bM bR gV at hx
 refine ent Tryd.func9 rfl Tryd.call9 rfl (fun C => ?_); simp only [go_sem, st0, Tryd.ntmps9]
 refine aL ?_
 refine bX (α := Nat) (fun k => [(3, oi k)]) (fun _ => []) (fun k => k ≤ x.fFiles.length ∧ (List.range x.fFiles.length).all (gK x) = ((List.range x.fFiles.length).drop k).all (gK x)) (fun k => x.fFiles.length - k) 0 (fun _ => ?_) ?_ ?_ (fun k hk => ?_)
 ·simp only [go_sem]
 ·simp only [go_sem]; simp
 ·simp
 ·obtain ⟨hk, hq⟩ := hk
  simp only [go_sem]
  refine aL ?_
  refine cnd rfl (fun h => ?_) (fun h => ?_)
  ·simp only [decide_eq_true_eq, Int.ofNat_lt] at h
   have h' : k < (List.range x.fFiles.length).length := by simpa using h
   have hd := List.drop_eq_getElem_cons h'
   rw [hd, List.all_cons, List.getElem_range] at hq
   have hw := eD dC x.fFiles h
   have hr : gK x k = (dX x.fSchema x.fFiles[k] && (!decide (x.fNextID ≤ x.fFiles[k].fID) && a1K x.fFiles k)) := by unfold gK; rw [List.getElem?_eq_getElem h]
   have q0 := @h; have q1 := @decide_true; have q2 := @decide_false; refine a6C (dR x.fSchema x.fFiles[k] (by unfold bR; omega) (by omega)) ?_
   cases hm : dX x.fSchema x.fFiles[k]
   ·rw [hm] at hr
    simp only [go_sem, hm]
    have q0 := @h; have q1 := @decide_true; have q2 := @decide_false; have q3 := @hm; refine pY ?_
    have hf : bV x = false := by
     unfold bV
     rw [hq, hr]; simp
    exact aA ⟨⟨_, rfl, by simp only [go_sem, hf]⟩, trivial⟩
   ·rw [hm] at hr
    simp only [go_sem, hm]
    have q0 := @h; have q1 := @decide_true; have q2 := @decide_false; have q3 := @hm; refine a8U (dR x.fSchema x.fFiles[k] (by unfold bR; omega) (by omega)) ?_
    by_cases hn : x.fNextID ≤ x.fFiles[k].fID
    ·simp only [hn, decide_true] at hr
     simp only [go_sem, hn, decide_true]
     have q0 := @h; have q1 := @decide_true; have q2 := @decide_false; have q3 := @hm; have q4 := @hn; refine a4j ?_
     have hf : bV x = false := by
      unfold bV
      rw [hq, hr]; simp
     exact aA ⟨⟨_, rfl, by simp only [go_sem, hf]⟩, trivial⟩
    ·simp only [hn, decide_false] at hr
     simp only [go_sem, hn, decide_false]
     have q0 := @h; have q1 := @decide_true; have q2 := @decide_false; have q3 := @hm; have q4 := @hn; refine a4k (dR x.fSchema x.fFiles[k] (by unfold bR; omega) (by omega)) ?_
     by_cases hk0 : 0 < k
     ·have hki : (0 : Int) < (k : Int) := by omega
      have hkx : (k : Int) - 1 = ((k - 1 : Nat) : Int) := by omega
      have hkl : k - 1 < x.fFiles.length := by omega
      rw [lD x.fFiles k hk0 h] at hr
      simp only [go_sem, hki, hkx, hkl, decide_true]
      have q0 := @h; have q1 := @decide_true; have q2 := @decide_false; have q3 := @hm; have q4 := @hn; have q5 := @hki; have q6 := @hkx; have q7 := @hkl; refine a8V (dR x.fSchema x.fFiles[k] (by unfold bR; omega) (by omega)) ?_
      by_cases ho : x.fFiles[k].fID ≤ x.fFiles[k - 1].fID
      ·simp only [ho, decide_true] at hr
       simp only [go_sem, ho, decide_true]
       have q0 := @h; have q1 := @decide_true; have q2 := @decide_false; have q3 := @hm; have q4 := @hn; have q5 := @hki; have q6 := @hkx; have q7 := @hkl; have q8 := @ho; refine a8W ?_
       have hf : bV x = false := by
        unfold bV
        rw [hq, hr]; simp
       exact aA ⟨⟨_, rfl, by simp only [go_sem, hf]⟩, trivial⟩
      ·simp only [ho, decide_false] at hr
       simp only [go_sem, ho, decide_false]
       have q0 := @h; have q1 := @decide_true; have q2 := @decide_false; have q3 := @hm; have q4 := @hn; have q5 := @hki; have q6 := @hkx; have q7 := @hkl; have q8 := @ho; refine b0t (dR x.fSchema x.fFiles[k] (by unfold bR; omega) (by omega)) ?_
       refine bF (k + 1) ?_ ?_ ?_
       ·simp only [go_sem]; simp
       ·refine ⟨h, ?_⟩
        rw [hq, hr]; simp
       ·omega
     ·have hki : ¬ (0 : Int) < (k : Int) := by omega
      rw [a0B x.fFiles k hk0] at hr
      simp only [go_sem, hki, decide_false]
      have q0 := @h; have q1 := @decide_true; have q2 := @decide_false; have q3 := @hm; have q4 := @hn; have q5 := @hki; refine a5o (dR x.fSchema x.fFiles[k] (by unfold bR; omega) (by omega)) ?_
      refine bF (k + 1) ?_ ?_ ?_
      ·simp only [go_sem]; simp
      ·refine ⟨h, ?_⟩
       rw [hq, hr]; simp
      ·omega
  ·simp only [decide_eq_false_iff_not] at h
   have e : k = x.fFiles.length := by omega
   have hq' : (List.range x.fFiles.length).all (gK x) = true := by
    rw [hq, List.drop_of_length_le (by simp [e])]; rfl
   have hr : bV x = (okSchema x.fSchema && (decide ((x.fFiles.length : Int) ≤ 12) && inB x.fNextID 1 61)) := by unfold bV; rw [hq']; simp only [Bool.true_and]
   have q0 := @decide_true; have q1 := @decide_false; refine a6B (dL x.fSchema (by unfold bR; omega)) (bB x.fNextID 1 61) ?_
   cases h0 : okSchema x.fSchema
   ·rw [h0] at hr
    simp only [go_sem, h0]
    have q0 := @decide_true; have q1 := @decide_false; have q2 := @h0; refine rM ?_
    exact aA ⟨⟨_, rfl, by simp only [go_sem, hr, bT, decide_true, decide_false]⟩, trivial⟩
   ·rw [h0] at hr
    simp only [go_sem, h0]
    have q0 := @decide_true; have q1 := @decide_false; have q2 := @h0; refine a6D (dL x.fSchema (by unfold bR; omega)) (bB x.fNextID 1 61) ?_
    by_cases h1 : (x.fFiles.length : Int) ≤ 12
    ·simp only [h1, decide_true] at hr
     simp only [go_sem, h1, decide_true]
     have q0 := @decide_true; have q1 := @decide_false; have q2 := @h0; have q3 := @h1; refine a4i (dL x.fSchema (by unfold bR; omega)) (bB x.fNextID 1 61) ?_
     exact aA ⟨⟨_, rfl, by simp only [go_sem, hr, bT, decide_true, decide_false]⟩, trivial⟩
    ·simp only [h1, decide_false] at hr
     simp only [go_sem, h1, decide_false]
     have q0 := @decide_true; have q1 := @decide_false; have q2 := @h0; have q3 := @h1; refine pY ?_
     exact aA ⟨⟨_, rfl, by simp only [go_sem, hr, bT, decide_true, decide_false]⟩, trivial⟩
end Go.Proofs.YtakopfjdmmnjcaaDoor
end
section
namespace Go.Proofs.YtakopfjdmmnjcaaDoor
open Go Go.Sx Go.RowKit Go.Proofs
theorem fB {x : TStore} : bV x = true ↔ (∀ k, k < x.fFiles.length → gK x k = true) ∧ okSchema x.fSchema = true ∧ x.fFiles.length ≤ 12 ∧ 1 ≤ x.fNextID ∧ x.fNextID ≤ 61 := by
 unfold bV inB
 simp only [Bool.and_eq_true, List.all_eq_true, List.mem_range, decide_eq_true_eq]
 constructor
 ·rintro ⟨h1, h2, h3, h4, h5⟩; exact ⟨h1, h2, by omega, h4, h5⟩
 ·rintro ⟨h1, h2, h3, h4, h5⟩; exact ⟨h1, h2, by omega, h4, h5⟩
theorem dW {x : TStore} {k : Nat} (h : k < x.fFiles.length) : gK x k = true ↔ dX x.fSchema x.fFiles[k] = true ∧ x.fFiles[k].fID < x.fNextID ∧ a1K x.fFiles k = true := by
 unfold gK
 rw [List.getElem?_eq_getElem h]
 simp only [Bool.and_eq_true, Bool.not_eq_true', decide_eq_false_iff_not, Int.not_le]
theorem yY {s : List TField} {f : TFile} (h : dX s f = true) : 1 ≤ f.fID ∧ f.fID ≤ 60 := by
 unfold dX inB at h
 simp only [Bool.and_eq_true, decide_eq_true_eq] at h
 exact h.2.1
def mkF (s : TStore) (f : TFile) : TFile := { f with fID := s.fNextID }
def iH (s : TStore) (f : TFile) : Bool := bV s && (decide (s.fFiles.length < 12) && dX s.fSchema (mkF s f))
def creS (s : TStore) (f : TFile) : TStore := if iH s f then ⟨s.fSchema, s.fFiles ++ [mkF s f], s.fNextID + 1⟩ else s
def a4y (s : TStore) (f : TFile) : Int := if iH s f then s.fNextID else 0
theorem yZ {s : TStore} {f : TFile} : iH s f = true ↔ bV s = true ∧ s.fFiles.length < 12 ∧ dX s.fSchema (mkF s f) = true := by
 unfold iH; simp only [Bool.and_eq_true, decide_eq_true_eq]
theorem a8s {s : TStore} {f : TFile} (h : iH s f = true) : bV (creS s f) = true := by
 obtain ⟨hs, hl, hf⟩ := yZ.1 h
 obtain ⟨h1, h2, h3, h4, h5⟩ := fB.1 hs
 have hid := yY hf
 have hid2 : 1 ≤ s.fNextID ∧ s.fNextID ≤ 60 := hid
 unfold creS
 rw [if_pos h]
 refine fB.2 ⟨fun k hk => ?_, h2, by simp; omega, by simp only; omega, by simp only; omega⟩
 rw [dW hk]
 simp only [List.length_append, List.length_cons, List.length_nil] at hk
 by_cases e : k < s.fFiles.length
 ·obtain ⟨q1, q2, q3⟩ := (dW e).1 (h1 k e)
  refine ⟨by simp only [List.getElem_append_left e]; exact q1, by simp only [List.getElem_append_left e]; omega, ?_⟩
  by_cases h0 : 0 < k
  ·rw [lD _ _ h0 (by simp; omega)]
   rw [lD _ _ h0 e] at q3
   simpa only [List.getElem_append_left e, List.getElem_append_left (show k - 1 < s.fFiles.length by omega)] using q3
  ·exact a0B _ _ h0
 ·have ek : k = s.fFiles.length := by omega
  subst ek
  refine ⟨by simpa using hf, by simp [mkF]; omega, ?_⟩
  by_cases h0 : 0 < s.fFiles.length
  ·rw [lD _ _ h0 (by simp)]
   have e1 : s.fFiles.length - 1 < s.fFiles.length := by omega
   have q := ((dW e1).1 (h1 _ e1)).2.1
   simp only [List.getElem_append_left e1, List.getElem_append_right (Nat.le_refl _), Nat.sub_self, List.getElem_cons_zero, mkF, Bool.not_eq_true', decide_eq_false_iff_not]
   omega
  ·exact a0B _ _ h0
end Go.Proofs.YtakopfjdmmnjcaaDoor
end
section
set_option maxRecDepth 100000
set_option maxHeartbeats 4000000
namespace Go.Proofs.YtakopfjdmmnjcaaDoor
open Go Go.Sx Go.RowKit Go.Proofs
def iG : List TField := [⟨⟨#[97]⟩, 1⟩, ⟨⟨#[98]⟩, 1⟩, ⟨⟨#[110]⟩, 2⟩, ⟨⟨#[116]⟩, 2⟩]
def pc (s : ByteArray) : Option TValue → List TAttr
 | none => []
 | some v => [⟨s, v⟩]
def pcs (a b n t : Option TValue) : List TAttr := pc ⟨#[97]⟩ a ++ (pc ⟨#[98]⟩ b ++ (pc ⟨#[110]⟩ n ++ pc ⟨#[116]⟩ t))
theorem a1u : bS ⟨#[97]⟩ ⟨#[98]⟩ = true := by decide +kernel
theorem a1v : bS ⟨#[97]⟩ ⟨#[110]⟩ = true := by decide +kernel
theorem a1w : bS ⟨#[97]⟩ ⟨#[116]⟩ = true := by decide +kernel
theorem a1x : bS ⟨#[98]⟩ ⟨#[110]⟩ = true := by decide +kernel
theorem a1y : bS ⟨#[98]⟩ ⟨#[116]⟩ = true := by decide +kernel
theorem a1z : bS ⟨#[110]⟩ ⟨#[116]⟩ = true := by decide +kernel
theorem a9m (x : Int) : uN ⟨#[97]⟩ ⟨1, x, ⟨#[]⟩⟩ (pcs none none none none) = pcs (some ⟨1, x, ⟨#[]⟩⟩) none none none := by
 simp [uN, kZ, isName, fV, gJ, oV, pcs, pc]
theorem a9n (x : Int) (a : Option TValue) : uN ⟨#[98]⟩ ⟨1, x, ⟨#[]⟩⟩ (pcs a none none none) = pcs a (some ⟨1, x, ⟨#[]⟩⟩) none none := by
 cases a <;> simp [uN, kZ, isName, fV, gJ, oV, pcs, pc, a1u]
theorem a9o (s : ByteArray) (a b : Option TValue) : uN ⟨#[110]⟩ ⟨2, 0, s⟩ (pcs a b none none) = pcs a b (some ⟨2, 0, s⟩) none := by
 cases a <;> cases b <;> simp [uN, kZ, isName, fV, gJ, oV, pcs, pc, a1v, a1x]
theorem a9p (s : ByteArray) (a b n : Option TValue) : uN ⟨#[116]⟩ ⟨2, 0, s⟩ (pcs a b n none) = pcs a b n (some ⟨2, 0, s⟩) := by
 cases a <;> cases b <;> cases n <;> simp [uN, kZ, isName, fV, gJ, oV, pcs, pc, a1w, a1y, a1z]
def sU (o : Option TValue) : Prop := ∀ v, o = some v → ∃ x, v = ⟨1, x, ⟨#[]⟩⟩ ∧ 0 ≤ x ∧ x ≤ 999
def words : List ByteArray := [⟨#[105, 110, 107]⟩, ⟨#[115, 101, 97]⟩, ⟨#[114, 101, 100]⟩, ⟨#[98, 108, 117, 101]⟩]
def sV (o : Option TValue) : Prop := ∀ v, o = some v → ∃ s, v = ⟨2, 0, s⟩ ∧ s ∈ words
theorem vK : sU none := fun v h => by cases h
theorem vM : sV none := fun v h => by cases h
theorem a1A {x : Int} (h : 0 ≤ x ∧ x ≤ 999) : sU (some ⟨1, x, ⟨#[]⟩⟩) := fun v e => by cases e; exact ⟨x, rfl, h⟩
theorem a1B {s : ByteArray} (h : s ∈ words) : sV (some ⟨2, 0, s⟩) := fun v e => by cases e; exact ⟨s, rfl, h⟩
structure fileD (id : Int) (f : TFile) : Prop where
 id : f.fID = id
 ow : 0 ≤ f.fOwner ∧ f.fOwner ≤ 2
 lk : 0 ≤ f.fLink ∧ f.fLink ≤ 60
 at_ : ∃ a b n t, f.fAttrs = pcs a b n t ∧ sU a ∧ sU b ∧ sV n ∧ sV t
theorem rO {s : ByteArray} (h : s ∈ words) : eB ⟨2, 0, s⟩ = true ∧ s.size ≤ 4 ∧ s ≠ ⟨#[122, 122]⟩ := by
 have := (by decide +kernel : ∀ s ∈ words, eB ⟨2, 0, s⟩ = true ∧ s.size ≤ 4 ∧ s ≠ ⟨#[122, 122]⟩)
 exact this s h
theorem a5B {x : Int} (h : 0 ≤ x ∧ x ≤ 999) : eB ⟨1, x, ⟨#[]⟩⟩ = true := by
 unfold eB
 simp [inB, h.1, h.2]
theorem a6S (x : Int) (h : 0 ≤ x ∧ x ≤ 999) : jN iG ⟨#[97]⟩ ⟨1, x, ⟨#[]⟩⟩ = true ∧ jN iG ⟨#[98]⟩ ⟨1, x, ⟨#[]⟩⟩ = true := by
 unfold jN
 rw [a5B h]
 exact ⟨rfl, rfl⟩
theorem a6T (s : ByteArray) (h : s ∈ words) : jN iG ⟨#[110]⟩ ⟨2, 0, s⟩ = true ∧ jN iG ⟨#[116]⟩ ⟨2, 0, s⟩ = true := by
 unfold jN
 rw [(rO h).1]
 exact ⟨rfl, rfl⟩
theorem a8e {a b n t : Option TValue} (ha : sU a) (hb : sU b) (hn : sV n) (ht : sV t) : (List.range (pcs a b n t).length).all (fC iG (pcs a b n t)) = true := by
 have key : ∀ {x : Option TValue}, sU x → x = none ∨ ∃ k, x = some ⟨1, k, ⟨#[]⟩⟩ ∧ 0 ≤ k ∧ k ≤ 999 := fun {x} h => by
  cases x with
  | none => exact .inl rfl
  | some v => obtain ⟨k, rfl, h2⟩ := h v rfl; exact .inr ⟨k, rfl, h2⟩
 have key2 : ∀ {x : Option TValue}, sV x → x = none ∨ ∃ k, x = some ⟨2, 0, k⟩ ∧ k ∈ words := fun {x} h => by
  cases x with
  | none => exact .inl rfl
  | some v => obtain ⟨k, rfl, h2⟩ := h v rfl; exact .inr ⟨k, rfl, h2⟩
 rw [List.all_eq_true]
 rcases key ha with rfl | ⟨x, rfl, hx⟩ <;> rcases key hb with rfl | ⟨y, rfl, hy⟩ <;> rcases key2 hn with rfl | ⟨p, rfl, hp⟩ <;> rcases key2 ht with rfl | ⟨q, rfl, hq⟩ <;>
  (intro k hk
   rw [List.mem_range] at hk
   simp only [pcs, pc, List.nil_append, List.singleton_append, List.append_nil, List.length_cons, List.length_nil] at hk ⊢
   match k, hk with
   | 0, h0 => first | (exfalso; omega) | (simp [fC, lC, a6S, a6T, a1u, a1v, a1w, a1x, a1y, a1z, *]; done)
   | 1, h0 => first | (exfalso; omega) | (simp [fC, lC, a6S, a6T, a1u, a1v, a1w, a1x, a1y, a1z, *]; done)
   | 2, h0 => first | (exfalso; omega) | (simp [fC, lC, a6S, a6T, a1u, a1v, a1w, a1x, a1y, a1z, *]; done)
   | 3, h0 => first | (exfalso; omega) | (simp [fC, lC, a6S, a6T, a1u, a1v, a1w, a1x, a1y, a1z, *]; done))
theorem a3u {id : Int} {f : TFile} (h : fileD id f) : dC f ≤ 40 ∧ a0p f.fAttrs ∧ ∀ a ∈ f.fAttrs, a.fValue.fStr ≠ ⟨#[122, 122]⟩ := by
 obtain ⟨a, b, n, t, e, h1, h2, h3, h4⟩ := h.at_
 have key : ∀ (nm : ByteArray) (x : Option TValue), nm.size = 1 → (sU x ∨ sV x) → (pc nm x).length + bL kH (pc nm x) ≤ 6 ∧ (∀ y ∈ pc nm x, a5v y ∧ y.fValue.fStr ≠ ⟨#[122, 122]⟩) := fun nm x hn hx => by
  cases x with
  | none => exact ⟨by simp [pc, bL], fun y hy => by simp [pc] at hy⟩
  | some v =>
   rcases hx with hx | hx
   ·obtain ⟨k, rfl, h1, h2⟩ := hx v rfl
    refine ⟨by simp [pc, bL, kH, fO, hn]; decide, fun y hy => ?_⟩
    simp [pc] at hy
    subst hy
    exact ⟨⟨by simp only [hn]; omega, in1, by simp only [inR]; omega, Nat.zero_le _⟩, fun q => by have := congrArg ByteArray.size q; simp at this; exact absurd this (by decide)⟩
   ·obtain ⟨s, rfl, hs⟩ := hx v rfl
    obtain ⟨-, h2, h3⟩ := rO hs
    refine ⟨by simp [pc, bL, kH, fO, hn]; omega, fun y hy => ?_⟩
    simp [pc] at hy
    subst hy
    exact ⟨⟨by simp only [hn]; omega, in2, in0, by simp only; omega⟩, h3⟩
 have ka := key ⟨#[97]⟩ a rfl (.inl h1)
 have kb := key ⟨#[98]⟩ b rfl (.inl h2)
 have kn := key ⟨#[110]⟩ n rfl (.inr h3)
 have kt := key ⟨#[116]⟩ t rfl (.inr h4)
 have hw : ∀ (l m : List TAttr), bL kH (l ++ m) = bL kH l + bL kH m := fun l m => by
  induction l with
  | nil => simp [bL]
  | cons x l ih => simp only [List.cons_append, bL, ih]; omega
 rw [e]
 refine ⟨?_, ⟨?_, fun y hy => ?_⟩, fun y hy => ?_⟩
 ·unfold dC iM
  rw [e]
  unfold pcs
  simp only [hw, List.length_append]
  omega
 ·unfold pcs
  simp only [List.length_append]
  omega
 ·unfold pcs at hy
  simp only [List.mem_append] at hy
  rcases hy with hy | hy | hy | hy
  ·exact (ka.2 y hy).1
  ·exact (kb.2 y hy).1
  ·exact (kn.2 y hy).1
  ·exact (kt.2 y hy).1
 ·unfold pcs at hy
  simp only [List.mem_append] at hy
  rcases hy with hy | hy | hy | hy
  ·exact (ka.2 y hy).2
  ·exact (kb.2 y hy).2
  ·exact (kn.2 y hy).2
  ·exact (kt.2 y hy).2
structure fileK (fid : Int) (k : Nat) (f : TFile) : Prop where
 id : f.fID = fid
 ow : 0 ≤ f.fOwner ∧ f.fOwner ≤ 2
 lk : 0 ≤ f.fLink ∧ f.fLink ≤ 60
 at_ : ∃ a b n t, f.fAttrs = pcs a b n t ∧ sU a ∧ sU b ∧ sV n ∧ sV t ∧ (k ≤ 0 → a = none) ∧ (k ≤ 1 → b = none) ∧ (k ≤ 2 → n = none) ∧ (k ≤ 3 → t = none)
theorem kI {fid : Int} {k : Nat} {f : TFile} (h : fileK fid k f) : f.fAttrs.length ≤ 4 := by
 obtain ⟨a, b, n, t, e, _⟩ := h.at_
 rw [e]
 cases a <;> cases b <;> cases n <;> cases t <;> simp [pcs, pc]
theorem rP {fid : Int} {k : Nat} {f : TFile} (h : fileK fid k f) : fileK fid (k + 1) f := by
 obtain ⟨a, b, n, t, e, h1, h2, h3, h4, h5, h6, h7, h8⟩ := h.at_
 exact ⟨h.id, h.ow, h.lk, a, b, n, t, e, h1, h2, h3, h4, fun q => h5 (by omega), fun q => h6 (by omega), fun q => h7 (by omega), fun q => h8 (by omega)⟩
theorem a6U {fid : Int} {f : TFile} (h : fileK fid 0 f) {x : Int} (hx : 0 ≤ x ∧ x ≤ 999) : fileK fid 1 (oJ f ⟨#[97]⟩ ⟨1, x, ⟨#[]⟩⟩) := by
 obtain ⟨a, b, n, t, e, h1, h2, h3, h4, h5, h6, h7, h8⟩ := h.at_
 obtain rfl := h5 (by omega); obtain rfl := h6 (by omega); obtain rfl := h7 (by omega); obtain rfl := h8 (by omega)
 exact ⟨h.id, h.ow, h.lk, _, _, _, _, by simp only [oJ, e]; exact a9m x, a1A hx, h2, h3, h4, fun q => by omega, fun _ => rfl, fun _ => rfl, fun _ => rfl⟩
theorem a6V {fid : Int} {f : TFile} (h : fileK fid 1 f) {x : Int} (hx : 0 ≤ x ∧ x ≤ 999) : fileK fid 2 (oJ f ⟨#[98]⟩ ⟨1, x, ⟨#[]⟩⟩) := by
 obtain ⟨a, b, n, t, e, h1, h2, h3, h4, h5, h6, h7, h8⟩ := h.at_
 obtain rfl := h6 (by omega); obtain rfl := h7 (by omega); obtain rfl := h8 (by omega)
 exact ⟨h.id, h.ow, h.lk, _, _, _, _, by simp only [oJ, e]; exact a9n x a, h1, a1A hx, h3, h4, fun q => by omega, fun q => by omega, fun _ => rfl, fun _ => rfl⟩
theorem a6W {fid : Int} {f : TFile} (h : fileK fid 2 f) {x : ByteArray} (hx : x ∈ words) : fileK fid 3 (oJ f ⟨#[110]⟩ ⟨2, 0, x⟩) := by
 obtain ⟨a, b, n, t, e, h1, h2, h3, h4, h5, h6, h7, h8⟩ := h.at_
 obtain rfl := h7 (by omega); obtain rfl := h8 (by omega)
 exact ⟨h.id, h.ow, h.lk, _, _, _, _, by simp only [oJ, e]; exact a9o x a b, h1, h2, a1B hx, h4, fun q => by omega, fun q => by omega, fun q => by omega, fun _ => rfl⟩
theorem a6X {fid : Int} {f : TFile} (h : fileK fid 3 f) {x : ByteArray} (hx : x ∈ words) : fileK fid 4 (oJ f ⟨#[116]⟩ ⟨2, 0, x⟩) := by
 obtain ⟨a, b, n, t, e, h1, h2, h3, h4, h5, h6, h7, h8⟩ := h.at_
 obtain rfl := h8 (by omega)
 exact ⟨h.id, h.ow, h.lk, _, _, _, _, by simp only [oJ, e]; exact a9p x a b n, h1, h2, h3, a1B hx, fun q => by omega, fun q => by omega, fun q => by omega, fun q => by omega⟩
theorem a6Y {fid : Int} {f : TFile} (h : fileK fid 4 f) : fileD fid f := by
 obtain ⟨a, b, n, t, e, h1, h2, h3, h4, _⟩ := h.at_
 exact ⟨h.id, h.ow, h.lk, a, b, n, t, e, h1, h2, h3, h4⟩
@[go_sem] def wd1 : List ByteArray := [⟨#[105, 110, 107]⟩, ⟨#[115, 101, 97]⟩]
@[go_sem] def wd2 : List ByteArray := [⟨#[114, 101, 100]⟩, ⟨#[98, 108, 117, 101]⟩]
theorem a9q : ∀ s ∈ wd1, s ∈ words := by
 intro s hs; simp [wd1] at hs; rcases hs with rfl | rfl <;> simp [words]
theorem a9r : ∀ s ∈ wd2, s ∈ words := by
 intro s hs; simp [wd2] at hs; rcases hs with rfl | rfl <;> simp [words]
theorem wQ {l : List Int} (hl : rR l) (fid : Int) : Drw l 38 [oi fid] (fun f : TFile => fileD fid f) (fun f => yP f) := by
 intro i h hi hh; refine a1D Tryd.func38 rfl Tryd.call38 rfl (fun C b => ?_); simp only [go_sem, Tryd.ntmps38]
 refine aL ?_
 first | (refine fQ (eP hl 3 (by decide) (by decide) i h hi hh) ⟨rfl, rfl⟩ ?_ rfl ?_; (focus first | rfl | (simp only [go_sem]; done))) | (refine hZ (eP hl 3 (by decide) (by decide) i h hi hh) ⟨rfl, rfl⟩ ?_ rfl ?_; (focus first | rfl | (simp only [go_sem]; done)))
 clear hi hh; rintro ⟨ow, i, h⟩ ⟨how, hi, hh⟩; simp only at how hi hh; simp only [go_sem]
 refine aL ?_
 first | (refine fQ (dD hl 2 (by decide) (by decide) i h hi hh) ⟨rfl, rfl⟩ ?_ rfl ?_; (focus first | rfl | (simp only [go_sem]; done))) | (refine hZ (dD hl 2 (by decide) (by decide) i h hi hh) ⟨rfl, rfl⟩ ?_ rfl ?_; (focus first | rfl | (simp only [go_sem]; done)))
 clear hi hh; rintro ⟨sh, i, h⟩ ⟨q0, hi, hh⟩; simp only at q0 hi hh; simp only [go_sem]
 refine aL ?_
 first | (refine fQ (dD hl 2 (by decide) (by decide) i h hi hh) ⟨rfl, rfl⟩ ?_ rfl ?_; (focus first | rfl | (simp only [go_sem]; done))) | (refine hZ (dD hl 2 (by decide) (by decide) i h hi hh) ⟨rfl, rfl⟩ ?_ rfl ?_; (focus first | rfl | (simp only [go_sem]; done)))
 clear hi hh; rintro ⟨c1, i, h⟩ ⟨q1, hi, hh⟩; simp only at q1 hi hh; simp only [go_sem]
 repeat' (with_reducible first | refine nX ?_ | (refine mX ?_; try simp only [go_sem]) | refine kD ?_ | refine aO ?_ | fail)
 refine a3a 2 4 80 4 rfl rfl ?_
 simp only [go_sem]
 refine rQ (α := TFile × Nat × Int) (fun _ => []) (fun x => [(0, .pin b 65 [.sl (l.map qB), iv x.2.1, iv x.2.2]), (2, .box 50 [.d (iv x.1.fID), .d (iv x.1.fOwner), .d (bv x.1.fShared), .d (iv x.1.fLink), .s 3]), (3, .row 80 4 (x.1.fAttrs.map dE) true)]) (fun x => fileK fid 0 x.1 ∧ (x.2.1 ≤ l.length ∧ inR .i64 x.2.2)) ?_ ?_
 ·cases c1
  ·refine aL ?_
   exact iT (⟨fid, ow, sh, 0, []⟩, i, h) ⟨⟨rfl, by simp only; omega, by simp, none, none, none, none, rfl, vK, vK, vM, vM, fun _ => rfl, fun _ => rfl, fun _ => rfl, fun _ => rfl⟩, ⟨hi, hh⟩⟩ (by simp only [go_sem]; simp) (by simp only [go_sem])
  ·refine aL ?_
   first | (refine fQ (eP hl 7 (by decide) (by decide) i h hi hh) ⟨rfl, rfl⟩ ?_ rfl ?_; (focus first | rfl | (simp only [go_sem]; done))) | (refine hZ (eP hl 7 (by decide) (by decide) i h hi hh) ⟨rfl, rfl⟩ ?_ rfl ?_; (focus first | rfl | (simp only [go_sem]; done)))
   clear hi hh; rintro ⟨lk, i, h⟩ ⟨hlk, hi, hh⟩; simp only at hlk hi hh; simp only [go_sem]
   refine aL ?_
   exact iT (⟨fid, ow, sh, lk, []⟩, i, h) ⟨⟨rfl, by simp only; omega, by simp only; omega, none, none, none, none, rfl, vK, vK, vM, vM, fun _ => rfl, fun _ => rfl, fun _ => rfl, fun _ => rfl⟩, ⟨hi, hh⟩⟩ (by simp only [go_sem]; simp) (by simp only [go_sem])
 ·rintro ⟨f, i, h⟩ ⟨hf, hi, hh⟩
  simp only at hf hi hh
  simp only [go_sem]
  refine aL ?_
  first | (refine fQ (dD hl 4 (by decide) (by decide) i h hi hh) ⟨rfl, rfl⟩ ?_ rfl ?_; (focus first | rfl | (simp only [go_sem]; done))) | (refine hZ (dD hl 4 (by decide) (by decide) i h hi hh) ⟨rfl, rfl⟩ ?_ rfl ?_; (focus first | rfl | (simp only [go_sem]; done)))
  clear hi hh; rintro ⟨c1, i, h⟩ ⟨q1, hi, hh⟩; simp only at q1 hi hh; simp only [go_sem]
  repeat' (with_reducible first | refine nX ?_ | (refine mX ?_; try simp only [go_sem]) | refine kD ?_ | refine aO ?_ | fail)
  refine rQ (α := TFile × Nat × Int) (fun _ => []) (fun x => [(0, .pin b 65 [.sl (l.map qB), iv x.2.1, iv x.2.2]), (2, .box 50 [.d (iv x.1.fID), .d (iv x.1.fOwner), .d (bv x.1.fShared), .d (iv x.1.fLink), .s 3]), (3, .row 80 4 (x.1.fAttrs.map dE) true)]) (fun x => fileK fid 1 x.1 ∧ (x.2.1 ≤ l.length ∧ inR .i64 x.2.2)) ?_ ?_
  ·cases c1
   ·have hw := kI hf
    have hf0 : f.fAttrs.length ≤ 4200000 := by omega
    have qH := trivial; repeat' (with_reducible first | refine nY ?_ | (refine mX ?_; try simp only [go_sem]) | refine kD ?_ | (apply rF [2,3,4,5] [] [0,1] [0,1] ((.c 2 [] [0] (.c 3 [] [0] (.c 4 [] [] (.c 5 [] [] .n .n) .n) .n) .n)) (by simp only [go_sem]; rfl) (by simp only [go_sem]; rfl) (by simp only [go_sem]; rfl) (by decide +kernel); (focus simp only [go_sem]; done)) | exact bQ | refine bC (uX ?_) ?_ | refine bD (aX ?_) ?_ | refine bE (aX ?_) ?_ | exact dA | exact oH | (refine uA ?_; simp only [go_sem]; (repeat' first | omega | refine And.intro ?_ ?_); done) | refine rD ?_ | refine aO ?_ | fail)
    first | (refine fQ (eP hl 4 (by decide) (by decide) i h hi hh) ⟨rfl, rfl⟩ ?_ rfl ?_; (focus first | rfl | (simp only [go_sem]; done))) | (refine hZ (eP hl 4 (by decide) (by decide) i h hi hh) ⟨rfl, rfl⟩ ?_ rfl ?_; (focus first | rfl | (simp only [go_sem]; done)))
    clear hi hh; rintro ⟨x, i, h⟩ ⟨hx, hi, hh⟩; simp only at hx hi hh; simp only [go_sem]
    have qH := trivial; repeat' (with_reducible first | refine nY ?_ | (refine mX ?_; try simp only [go_sem]) | refine kD ?_ | exact bQ | refine bC (uX ?_) ?_ | refine bD (aX ?_) ?_ | refine bE (aX ?_) ?_ | (refine uA ?_; simp only [go_sem]; (repeat' first | omega | refine And.intro ?_ ?_); done) | refine rD ?_ | refine cP (a1C x) ?_ | refine hR (aZ f ⟨#[97]⟩ ⟨1, x, ⟨#[]⟩⟩ hf0) ?_ | refine vR (aZ f ⟨#[97]⟩ ⟨1, x, ⟨#[]⟩⟩ hf0) ?_ | refine vD (aZ f ⟨#[97]⟩ ⟨1, x, ⟨#[]⟩⟩ hf0) ?_ | refine aO ?_ | fail)
    exact vN [(3, 4)] (oJ f ⟨#[97]⟩ ⟨1, x, ⟨#[]⟩⟩, i, h) ⟨a6U hf (by omega), ⟨hi, hh⟩⟩ (by simp only [go_sem]; rfl) (by simp only [go_sem]; simp) (by simp only [go_sem])
   ·have hw := kI hf
    refine aL ?_
    exact iT (f, i, h) ⟨rP hf, ⟨hi, hh⟩⟩ (by simp only [go_sem]; simp) (by simp only [go_sem])
  ·rintro ⟨f, i, h⟩ ⟨hf, hi, hh⟩
   simp only at hf hi hh
   simp only [go_sem]
   refine aL ?_
   first | (refine fQ (dD hl 2 (by decide) (by decide) i h hi hh) ⟨rfl, rfl⟩ ?_ rfl ?_; (focus first | rfl | (simp only [go_sem]; done))) | (refine hZ (dD hl 2 (by decide) (by decide) i h hi hh) ⟨rfl, rfl⟩ ?_ rfl ?_; (focus first | rfl | (simp only [go_sem]; done)))
   clear hi hh; rintro ⟨c1, i, h⟩ ⟨q1, hi, hh⟩; simp only at q1 hi hh; simp only [go_sem]
   repeat' (with_reducible first | refine nX ?_ | (refine mX ?_; try simp only [go_sem]) | refine kD ?_ | refine aO ?_ | fail)
   refine rQ (α := TFile × Nat × Int) (fun _ => []) (fun x => [(0, .pin b 65 [.sl (l.map qB), iv x.2.1, iv x.2.2]), (2, .box 50 [.d (iv x.1.fID), .d (iv x.1.fOwner), .d (bv x.1.fShared), .d (iv x.1.fLink), .s 3]), (3, .row 80 4 (x.1.fAttrs.map dE) true)]) (fun x => fileK fid 2 x.1 ∧ (x.2.1 ≤ l.length ∧ inR .i64 x.2.2)) ?_ ?_
   ·cases c1
    ·have hw := kI hf
     refine aL ?_
     exact iT (f, i, h) ⟨rP hf, ⟨hi, hh⟩⟩ (by simp only [go_sem]; simp) (by simp only [go_sem])
    ·have hw := kI hf
     have hf0 : f.fAttrs.length ≤ 4200000 := by omega
     have qH := trivial; repeat' (with_reducible first | refine nY ?_ | (refine mX ?_; try simp only [go_sem]) | refine kD ?_ | (apply rF [2,3,4,5] [] [0,1] [0,1] ((.c 2 [] [0] (.c 3 [] [0] (.c 4 [] [] (.c 5 [] [] .n .n) .n) .n) .n)) (by simp only [go_sem]; rfl) (by simp only [go_sem]; rfl) (by simp only [go_sem]; rfl) (by decide +kernel); (focus simp only [go_sem]; done)) | exact bQ | refine bC (uX ?_) ?_ | refine bD (aX ?_) ?_ | refine bE (aX ?_) ?_ | exact dA | exact oH | (refine uA ?_; simp only [go_sem]; (repeat' first | omega | refine And.intro ?_ ?_); done) | refine rD ?_ | refine aO ?_ | fail)
     first | (refine fQ (eP hl 4 (by decide) (by decide) i h hi hh) ⟨rfl, rfl⟩ ?_ rfl ?_; (focus first | rfl | (simp only [go_sem]; done))) | (refine hZ (eP hl 4 (by decide) (by decide) i h hi hh) ⟨rfl, rfl⟩ ?_ rfl ?_; (focus first | rfl | (simp only [go_sem]; done)))
     clear hi hh; rintro ⟨x, i, h⟩ ⟨hx, hi, hh⟩; simp only at hx hi hh; simp only [go_sem]
     have qH := trivial; repeat' (with_reducible first | refine nY ?_ | (refine mX ?_; try simp only [go_sem]) | refine kD ?_ | exact bQ | refine bC (uX ?_) ?_ | refine bD (aX ?_) ?_ | refine bE (aX ?_) ?_ | (refine uA ?_; simp only [go_sem]; (repeat' first | omega | refine And.intro ?_ ?_); done) | refine rD ?_ | refine cP (a1C x) ?_ | refine hR (aZ f ⟨#[98]⟩ ⟨1, x, ⟨#[]⟩⟩ hf0) ?_ | refine vR (aZ f ⟨#[98]⟩ ⟨1, x, ⟨#[]⟩⟩ hf0) ?_ | refine vD (aZ f ⟨#[98]⟩ ⟨1, x, ⟨#[]⟩⟩ hf0) ?_ | refine aO ?_ | fail)
     exact vN [(3, 4)] (oJ f ⟨#[98]⟩ ⟨1, x, ⟨#[]⟩⟩, i, h) ⟨a6V hf (by omega), ⟨hi, hh⟩⟩ (by simp only [go_sem]; rfl) (by simp only [go_sem]; simp) (by simp only [go_sem])
   ·rintro ⟨f, i, h⟩ ⟨hf, hi, hh⟩
    simp only at hf hi hh
    simp only [go_sem]
    refine aL ?_
    first | (refine fQ (dD hl 3 (by decide) (by decide) i h hi hh) ⟨rfl, rfl⟩ ?_ rfl ?_; (focus first | rfl | (simp only [go_sem]; done))) | (refine hZ (dD hl 3 (by decide) (by decide) i h hi hh) ⟨rfl, rfl⟩ ?_ rfl ?_; (focus first | rfl | (simp only [go_sem]; done)))
    clear hi hh; rintro ⟨c1, i, h⟩ ⟨q1, hi, hh⟩; simp only at q1 hi hh; simp only [go_sem]
    repeat' (with_reducible first | refine nX ?_ | (refine mX ?_; try simp only [go_sem]) | refine kD ?_ | refine aO ?_ | fail)
    refine rQ (α := TFile × Nat × Int) (fun _ => []) (fun x => [(0, .pin b 65 [.sl (l.map qB), iv x.2.1, iv x.2.2]), (2, .box 50 [.d (iv x.1.fID), .d (iv x.1.fOwner), .d (bv x.1.fShared), .d (iv x.1.fLink), .s 3]), (3, .row 80 4 (x.1.fAttrs.map dE) true)]) (fun x => fileK fid 3 x.1 ∧ (x.2.1 ≤ l.length ∧ inR .i64 x.2.2)) ?_ ?_
    ·cases c1
     ·have hw := kI hf
      have hf0 : f.fAttrs.length ≤ 4200000 := by omega
      have qH := trivial; repeat' (with_reducible first | refine nY ?_ | (refine mX ?_; try simp only [go_sem]) | refine kD ?_ | (apply rF [2,3,4,5,6] [] [0,1] [0,1] ((.c 2 [] [0,1] (.c 3 [] [0] (.c 4 [] [0] (.c 5 [] [] (.c 6 [] [] .n .n) .n) .n) .n) .n)) (by simp only [go_sem]; rfl) (by simp only [go_sem]; rfl) (by simp only [go_sem]; rfl) (by decide +kernel); (focus simp only [go_sem]; done)) | exact bQ | refine bC (uX ?_) ?_ | refine bD (aX ?_) ?_ | refine bE (aX ?_) ?_ | exact dA | exact oH | (refine uA ?_; simp only [go_sem]; (repeat' first | omega | refine And.intro ?_ ?_); done) | refine rD ?_ | refine aO ?_ | fail)
      first | (refine fQ (kY hl wd1 (by decide) (by decide) i h hi hh) ⟨rfl, rfl⟩ ?_ rfl ?_; (focus first | rfl | (simp only [go_sem]; done))) | (refine hZ (kY hl wd1 (by decide) (by decide) i h hi hh) ⟨rfl, rfl⟩ ?_ rfl ?_; (focus first | rfl | (simp only [go_sem]; done)))
      clear hi hh; rintro ⟨x, i, h⟩ ⟨hx, hi, hh⟩; simp only at hx hi hh; simp only [go_sem]
      have qH := trivial; repeat' (with_reducible first | refine nY ?_ | (refine mX ?_; try simp only [go_sem]) | refine kD ?_ | exact bQ | refine bC (uX ?_) ?_ | refine bD (aX ?_) ?_ | refine bE (aX ?_) ?_ | (refine uA ?_; simp only [go_sem]; (repeat' first | omega | refine And.intro ?_ ?_); done) | refine rD ?_ | refine cP (wR x) ?_ | refine hR (aZ f ⟨#[110]⟩ ⟨2, 0, x⟩ hf0) ?_ | refine vR (aZ f ⟨#[110]⟩ ⟨2, 0, x⟩ hf0) ?_ | refine vD (aZ f ⟨#[110]⟩ ⟨2, 0, x⟩ hf0) ?_ | refine aO ?_ | fail)
      exact vN [(3, 5)] (oJ f ⟨#[110]⟩ ⟨2, 0, x⟩, i, h) ⟨a6W hf (a9q x hx), ⟨hi, hh⟩⟩ (by simp only [go_sem]; rfl) (by simp only [go_sem]; simp) (by simp only [go_sem])
     ·have hw := kI hf
      refine aL ?_
      exact iT (f, i, h) ⟨rP hf, ⟨hi, hh⟩⟩ (by simp only [go_sem]; simp) (by simp only [go_sem])
    ·rintro ⟨f, i, h⟩ ⟨hf, hi, hh⟩
     simp only at hf hi hh
     simp only [go_sem]
     refine aL ?_
     first | (refine fQ (dD hl 2 (by decide) (by decide) i h hi hh) ⟨rfl, rfl⟩ ?_ rfl ?_; (focus first | rfl | (simp only [go_sem]; done))) | (refine hZ (dD hl 2 (by decide) (by decide) i h hi hh) ⟨rfl, rfl⟩ ?_ rfl ?_; (focus first | rfl | (simp only [go_sem]; done)))
     clear hi hh; rintro ⟨c1, i, h⟩ ⟨q1, hi, hh⟩; simp only at q1 hi hh; simp only [go_sem]
     repeat' (with_reducible first | refine nX ?_ | (refine mX ?_; try simp only [go_sem]) | refine kD ?_ | refine aO ?_ | fail)
     refine rQ (α := TFile × Nat × Int) (fun _ => []) (fun x => [(0, .pin b 65 [.sl (l.map qB), iv x.2.1, iv x.2.2]), (2, .box 50 [.d (iv x.1.fID), .d (iv x.1.fOwner), .d (bv x.1.fShared), .d (iv x.1.fLink), .s 3]), (3, .row 80 4 (x.1.fAttrs.map dE) true)]) (fun x => fileK fid 4 x.1 ∧ (x.2.1 ≤ l.length ∧ inR .i64 x.2.2)) ?_ ?_
     ·cases c1
      ·have hw := kI hf
       refine aL ?_
       exact iT (f, i, h) ⟨rP hf, ⟨hi, hh⟩⟩ (by simp only [go_sem]; simp) (by simp only [go_sem])
      ·have hw := kI hf
       have hf0 : f.fAttrs.length ≤ 4200000 := by omega
       have qH := trivial; repeat' (with_reducible first | refine nY ?_ | (refine mX ?_; try simp only [go_sem]) | refine kD ?_ | (apply rF [2,3,4,5,6] [] [0,1] [0,1] ((.c 2 [] [0,1] (.c 3 [] [0] (.c 4 [] [0] (.c 5 [] [] (.c 6 [] [] .n .n) .n) .n) .n) .n)) (by simp only [go_sem]; rfl) (by simp only [go_sem]; rfl) (by simp only [go_sem]; rfl) (by decide +kernel); (focus simp only [go_sem]; done)) | exact bQ | refine bC (uX ?_) ?_ | refine bD (aX ?_) ?_ | refine bE (aX ?_) ?_ | exact dA | exact oH | (refine uA ?_; simp only [go_sem]; (repeat' first | omega | refine And.intro ?_ ?_); done) | refine rD ?_ | refine aO ?_ | fail)
       first | (refine fQ (kY hl wd2 (by decide) (by decide) i h hi hh) ⟨rfl, rfl⟩ ?_ rfl ?_; (focus first | rfl | (simp only [go_sem]; done))) | (refine hZ (kY hl wd2 (by decide) (by decide) i h hi hh) ⟨rfl, rfl⟩ ?_ rfl ?_; (focus first | rfl | (simp only [go_sem]; done)))
       clear hi hh; rintro ⟨x, i, h⟩ ⟨hx, hi, hh⟩; simp only at hx hi hh; simp only [go_sem]
       have qH := trivial; repeat' (with_reducible first | refine nY ?_ | (refine mX ?_; try simp only [go_sem]) | refine kD ?_ | exact bQ | refine bC (uX ?_) ?_ | refine bD (aX ?_) ?_ | refine bE (aX ?_) ?_ | (refine uA ?_; simp only [go_sem]; (repeat' first | omega | refine And.intro ?_ ?_); done) | refine rD ?_ | refine cP (wR x) ?_ | refine hR (aZ f ⟨#[116]⟩ ⟨2, 0, x⟩ hf0) ?_ | refine vR (aZ f ⟨#[116]⟩ ⟨2, 0, x⟩ hf0) ?_ | refine vD (aZ f ⟨#[116]⟩ ⟨2, 0, x⟩ hf0) ?_ | refine aO ?_ | fail)
       exact vN [(3, 5)] (oJ f ⟨#[116]⟩ ⟨2, 0, x⟩, i, h) ⟨a6X hf (a9r x hx), ⟨hi, hh⟩⟩ (by simp only [go_sem]; rfl) (by simp only [go_sem]; simp) (by simp only [go_sem])
     ·rintro ⟨f, i, h⟩ ⟨hf, hi, hh⟩
      simp only at hf hi hh
      simp only [go_sem]
      refine aL ?_
      exact eF (f, i, h) ⟨⟨_, rfl, by simp only [go_sem]⟩, trivial⟩ ⟨a6Y hf, ⟨hi, hh⟩⟩ (by simp only [go_sem])
end Go.Proofs.YtakopfjdmmnjcaaDoor
end
section
set_option maxRecDepth 100000
namespace Go.Proofs.YtakopfjdmmnjcaaDoor
open Go Go.Sx Go.RowKit Go.Proofs
theorem a9I {α : Type} (l : List α) : (l.all fun _ => true) = true := by simp
theorem a1L (l : List Int) (hl : l.length ≤ 67108864) : FnC Tryd.prog 33 [.o (.d (.sl (l.map gL)))] (.o (.w 3 1 (l.map gL))) := by
 refine ent Tryd.func33 rfl Tryd.call33 rfl (fun C => ?_); simp only [go_sem, st0, Tryd.ntmps33]
 refine aL ?_
 intro b hb
 refine aL ?_
 refine cnd rfl (fun h1 => ?_) (fun h1 => ?_)
 ·have e := hb h1
  simp only [List.map_eq_nil_iff] at e
  subst e
  refine aL ?_
  exact aA ⟨⟨_, rfl, by simp only [go_sem]⟩, trivial⟩
 ·refine aL ?_
  exact aA ⟨⟨_, rfl, by simp only [go_sem, a9I]⟩, trivial⟩
end Go.Proofs.YtakopfjdmmnjcaaDoor
end
section
set_option maxRecDepth 100000
set_option maxHeartbeats 4000000
namespace Go.Proofs.YtakopfjdmmnjcaaDoor
open Go Go.Sx Go.RowKit Go.Proofs
theorem a4z (f : TFile) (h : f.fAttrs.length ≤ 4300000) : FnC Tryd.prog 43 [mI f] (yP f) := by
 refine ent Tryd.func43 rfl Tryd.call43 rfl (fun C => ?_); simp only [go_sem, st0, Tryd.ntmps43]
 refine wM (a0A f.fAttrs h) ?_
 exact aA ⟨⟨_, rfl, by simp only [go_sem]⟩, trivial⟩
theorem lF (f : TFile) (h : f.fAttrs.length ≤ 4300000) : FnC Tryd.prog 49 [mI f] (yP f) := by
 refine ent Tryd.func49 rfl Tryd.call49 rfl (fun C => ?_); simp only [go_sem, st0, Tryd.ntmps49]
 refine aL ?_
 exact aA ⟨⟨_, rfl, by simp only [go_sem]⟩, trivial⟩
theorem nK (s : TStore) (h : bM s ≤ 4300000) : FnC Tryd.prog 55 [fA s] (a2H s) := by
 have h1 : s.fSchema.length ≤ 4300000 := by unfold bM bR at h; omega
 have h2 : s.fFiles.length + bL dC s.fFiles ≤ 4300000 := by unfold bM gV at h; omega
 refine ent Tryd.func55 rfl Tryd.call55 rfl (fun C => ?_); simp only [go_sem, st0, Tryd.ntmps55]
 have qH := trivial; repeat' (with_reducible first | refine nY ?_ | (refine mX ?_; try simp only [go_sem]) | refine kD ?_ | (apply rE [0,3,7,8] [] [1,2,4,5] [1,2,4,5] ((.c 0 [] [1,2,4,5] (.c 3 [6] [4,5,6] (.c 7 [] [4,5,6] (.c 8 [] [] .n .n) .n) (.c 7 [] [1,2,4,5] (.c 3 [6] [4,5,6] (.c 8 [] [] .n .n) .n) .n)) (.c 7 [] [1,2,4,5] (.c 0 [] [1,2,4,5] (.c 3 [6] [4,5,6] (.c 8 [] [] .n .n) .n) .n) .n))) (by simp only [go_sem]; rfl) (by simp only [go_sem]; rfl) (by simp only [go_sem]; rfl) (by decide +kernel); (focus simp only [go_sem]; done)) | exact bQ | refine bC (uX ?_) ?_ | refine bD (aX ?_) ?_ | refine bE (aX ?_) ?_ | exact dA | (refine a0y [(2, 3)] (by simp only [go_sem]; rfl) ?_; exact rfl) | exact oH | (refine uA ?_; simp only [go_sem]; (repeat' first | omega | refine And.intro ?_ ?_); done) | refine rD ?_ | refine aO ?_ | fail)
 refine a3a 3 1 50 5 rfl rfl ?_
 simp only [go_sem]
 refine bX (α := Nat) (fun k => [(4, oi k)]) (fun k => [(4, .row 50 5 ((s.fFiles.take k).map cZ) true)]) (fun k => k ≤ s.fFiles.length) (fun k => s.fFiles.length - k) 0 (fun _ => ?_) ?_ ?_ (fun k hk => ?_)
 ·simp only [go_sem]
 ·simp only [go_sem]; simp
 ·simp
 ·simp only [go_sem]
  refine aL ?_
  refine cnd rfl (fun h1 => ?_) (fun h1 => ?_)
  ·simp only [decide_eq_true_eq, Int.ofNat_lt] at h1
   have hw := eD dC s.fFiles h1
   have hx : s.fFiles[k].fAttrs.length ≤ 4300000 := by
    have e : s.fFiles[k].fAttrs.length ≤ dC s.fFiles[k] := by unfold dC iM; omega
    omega
   have ht := List.take_succ_eq_append_getElem h1
   have hn : (s.fFiles.take k).length = k := by rw [List.length_take]; omega
   have qH := aI @h1 @hn; repeat' (with_reducible first | refine nY ?_ | (refine mX ?_; try simp only [go_sem, qH]) | refine kD ?_ | (apply rE [7,8,9,11] [] [0,1,2,3,4,5,6] [0,1,2,3,4,5,6] ((.c 7 [] [0,1] (.c 8 [] [0,1] (.c 9 [10] [10] (.c 11 [] [] .n .n) .n) .n) .n)) (by simp only [go_sem]; rfl) (by simp only [go_sem]; rfl) (by simp only [go_sem]; rfl) (by decide +kernel); (focus simp only [go_sem]; done)) | exact bQ | refine bC (uX ?_) ?_ | refine bD (aX ?_) ?_ | refine bE (aX ?_) ?_ | exact dA | exact oH | exact uB | refine rD ?_ | refine cP (lF s.fFiles[k] hx) ?_ | refine aO ?_ | fail)
   refine bF (k + 1) ?_ ?_ ?_
   ·simp only [go_sem, ht, List.map_append]; simp [cZ]
   ·omega
   ·omega
  ·simp only [decide_eq_false_iff_not] at h1
   have e : k = s.fFiles.length := by omega
   subst e
   refine aL ?_
   exact aA ⟨⟨_, rfl, by simp only [go_sem, List.take_length]⟩, trivial⟩
theorem xN (s : TStore) (f : TFile) (hs : bM s ≤ 4300000) (hf : dC f ≤ 4300000) : FnC Tryd.prog 37 [fA s, mI f] (.t [(true, (a2H (creS s f)).cells), (false, [.d (iv (a4y s f))]), (false, [.d (bv (iH s f))])]) := by
 have h1 : bR s.fSchema ≤ 4300000 := by unfold bM at hs; omega
 have h2 : s.fFiles.length ≤ 4300000 := by unfold bM gV at hs; omega
 have h3 : f.fAttrs.length ≤ 4300000 := by unfold dC iM at hf; omega
 have hm : (mkF s f) = ⟨s.fNextID, f.fOwner, f.fShared, f.fLink, f.fAttrs⟩ := rfl
 refine ent Tryd.func37 rfl Tryd.call37 rfl (fun C => ?_); simp only [go_sem, st0, Tryd.ntmps37]
 cases hv : bV s
 ·have e : iH s f = false := by simp [iH, hv]
  have qH := @hv; repeat' (with_reducible first | refine nY ?_ | (refine mX ?_; try simp only [go_sem, qH]) | refine kD ?_ | refine rD ?_ | refine cP (nK s hs) ?_ | refine cP (lF f h3) ?_ | refine vR (bW s hs) ?_ | refine vD (bW s hs) ?_ | refine aO ?_ | fail)
  exact aA ⟨⟨_, rfl, by simp only [go_sem, creS, a4y, e]; try simp⟩, by simp [fK]⟩
 by_cases hl : s.fFiles.length < 12
 case neg =>
  have e : iH s f = false := by simp [iH, hl]
  have hz : (12 : Int) ≤ (s.fFiles.length : Int) := by omega
  have qH := aI @hv (aI @hz @decide_true); repeat' (with_reducible first | refine nY ?_ | (refine mX ?_; try simp only [go_sem, qH]) | refine kD ?_ | refine rD ?_ | refine cP (nK s hs) ?_ | refine cP (lF f h3) ?_ | refine vR (bW s hs) ?_ | refine vD (bW s hs) ?_ | refine aO ?_ | fail)
  exact aA ⟨⟨_, rfl, by simp only [go_sem, creS, a4y, e]; try simp⟩, by simp [fK]⟩
 have hz : ¬ (12 : Int) ≤ (s.fFiles.length : Int) := by omega
 cases ho : dX s.fSchema (mkF s f)
 ·have e : iH s f = false := by simp [iH, ho]
  have hk := dR s.fSchema (mkF s f) h1 hf
  rw [ho, hm] at hk
  have qH := aI @hv (aI @hz @decide_false); repeat' (with_reducible first | refine nY ?_ | (refine mX ?_; try simp only [go_sem, qH]) | refine kD ?_ | refine rD ?_ | refine cP (nK s hs) ?_ | refine cP (lF f h3) ?_ | refine vR (bW s hs) ?_ | refine vD (bW s hs) ?_ | refine vR hk ?_ | refine vD hk ?_ | refine aO ?_ | fail)
  exact aA ⟨⟨_, rfl, by simp only [go_sem, creS, a4y, e]; try simp⟩, by simp [fK]⟩
 ·have e : iH s f = true := by simp [iH, hv, hl, ho]
  have hid := yY ho
  have hid2 : 1 ≤ s.fNextID ∧ s.fNextID ≤ 60 := hid
  have hk := dR s.fSchema (mkF s f) h1 hf
  rw [ho, hm] at hk
  have qH := aI @hv (aI @hz @decide_false); repeat' (with_reducible first | refine nY ?_ | (refine mX ?_; try simp only [go_sem, qH]) | refine kD ?_ | (apply rE [3] [] [0,1,2] [0,1,2] ((.c 3 [4,5] [1,2,4,5] .n .n)) (by simp only [go_sem]; rfl) (by simp only [go_sem]; rfl) (by simp only [go_sem]; rfl) (by decide +kernel); (focus simp only [go_sem]; done)) | exact bQ | refine bC (uX ?_) ?_ | refine bD (aX ?_) ?_ | refine bE (aX ?_) ?_ | exact dA | exact oH | exact uB | refine rD ?_ | refine cP (nK s hs) ?_ | refine cP (lF f h3) ?_ | refine vR (bW s hs) ?_ | refine vG (bW s hs) ?_ | refine vR hk ?_ | refine vG hk ?_ | refine aO ?_ | fail)
  exact aA ⟨⟨_, rfl, by simp only [go_sem, creS, a4y, e, if_true, List.map_append, mkF]; try simp [cZ]⟩, by simp [fK]⟩
end Go.Proofs.YtakopfjdmmnjcaaDoor
end
section
namespace Go.Proofs.YtakopfjdmmnjcaaDoor
open Go Go.Sx Go.RowKit Go.Proofs
def ixF (id : Int) (l : List TFile) : Int := idxP (fun f => decide (f.fID = id)) l 0
theorem ixF_cases (id : Int) (l : List TFile) : (ixF id l = -1) ∨ ∃ p : Nat, ixF id l = p ∧ ∃ h : p < l.length, l[p].fID = id := by
 rcases idxP_spec (fun f : TFile => decide (f.fID = id)) l 0 with h | ⟨k, e1, e2, e5, e6⟩
 ·exact .inl h.1
 ·exact .inr ⟨k, by unfold ixF; rw [e1]; simp, e2, by simpa using e5⟩
def zF : TFile := ⟨0, 0, false, 0, []⟩
def eG (id : Int) (l : List TFile) : TFile := if 0 ≤ ixF id l then l.getD (ixF id l).toNat zF else zF
theorem sD {id : Int} {l : List TFile} (h : ixF id l = -1) : eG id l = zF := by unfold eG; rw [h]; rfl
theorem nV {id : Int} {l : List TFile} {p : Nat} (h : ixF id l = p) (hp : p < l.length) : eG id l = l[p] := by unfold eG; rw [h, if_pos (by omega)]; simp [hp]
theorem a0C (id : Int) (l : List TFile) : dC (eG id l) ≤ gV l := by
 rcases ixF_cases id l with h | ⟨p, h, hp, _⟩
 ·rw [sD h]; simp [zF, dC, iM, bL]
 ·rw [nV h hp]; have := eD dC l hp; unfold gV; omega
def mJ {α : Type} (p : Nat) (l : List α) : List α := l.take p ++ l.drop (p + 1)
theorem a3G {α : Type} {p : Nat} {l : List α} (h : p < l.length) : (mJ p l).length = l.length - 1 := by simp [mJ]; omega
theorem a2T {α : Type} {p k : Nat} {l : List α} (h : p < l.length) (hk : k < (mJ p l).length) (e : k < p) : (mJ p l)[k] = l[k] := by
 simp only [mJ]
 rw [List.getElem_append_left (by simp; omega), List.getElem_take]
theorem a5Q {α : Type} {p k : Nat} {l : List α} (h : p < l.length) (hk : k < (mJ p l).length) (e : ¬ k < p) : (mJ p l)[k] = l[k + 1]'(by rw [a3G h] at hk; omega) := by
 simp only [mJ]
 rw [List.getElem_append_right (by simp; omega), List.getElem_drop]
 congr 1
 simp; omega
theorem qD {s : TStore} (h : bV s = true) (j : Nat) (h0 : 0 < j) (hj : j < s.fFiles.length) : s.fFiles[j - 1].fID < s.fFiles[j].fID := by
 have q := ((dW hj).1 ((fB.1 h).1 j hj)).2.2
 rw [lD _ _ h0 hj] at q
 simp only [Bool.not_eq_true', decide_eq_false_iff_not] at q
 omega
theorem a3H (l : List TFile) (k : Nat) (hk : k < l.length) (h : ∀ h0 : 0 < k, (l[k - 1]'(by omega)).fID < l[k].fID) : a1K l k = true := by
 by_cases h0 : 0 < k
 ·rw [lD _ _ h0 hk]
  have := h h0
  simp only [Bool.not_eq_true', decide_eq_false_iff_not]
  omega
 ·exact a0B _ _ h0
def uC (s : TStore) (id : Int) : Bool := bV s && decide (0 ≤ ixF id s.fFiles)
def delS (s : TStore) (id : Int) : TStore := if uC s id then ⟨s.fSchema, mJ (ixF id s.fFiles).toNat s.fFiles, s.fNextID⟩ else s
theorem a8t {s : TStore} {id : Int} (h : uC s id = true) : bV (delS s id) = true := by
 have h' := h
 unfold uC at h'
 rw [Bool.and_eq_true, decide_eq_true_eq] at h'
 obtain ⟨hs, hi⟩ := h'
 obtain ⟨h1, h2, h3, h4, h5⟩ := fB.1 hs
 rcases ixF_cases id s.fFiles with e | ⟨p, e, hp, _⟩
 ·omega
 unfold delS
 rw [if_pos h, e, Int.toNat_natCast]
 have hl := a3G hp
 refine fB.2 ⟨fun k hk => ?_, h2, by simp only [hl]; omega, h4, h5⟩
 rw [dW hk]
 simp only at hk ⊢
 by_cases ek : k < p
 ·have e1 := a2T hp hk ek
  obtain ⟨q1, q2, q3⟩ := (dW (by omega)).1 (h1 k (by omega))
  refine ⟨by rw [e1]; exact q1, by rw [e1]; exact q2, a3H _ _ hk fun h0 => ?_⟩
  rw [e1, a2T hp (by omega) (by omega)]
  exact qD hs k h0 (by omega)
 ·have e1 := a5Q hp hk ek
  have hk1 : k + 1 < s.fFiles.length := by rw [hl] at hk; omega
  obtain ⟨q1, q2, q3⟩ := (dW hk1).1 (h1 (k + 1) hk1)
  refine ⟨by rw [e1]; exact q1, by rw [e1]; exact q2, a3H _ _ hk fun h0 => ?_⟩
  have u1 := qD hs (k + 1) (by omega) hk1
  simp only [Nat.add_sub_cancel] at u1
  by_cases ep : k - 1 < p
  ·rw [e1, a2T hp (by omega) ep]
   have u2 := qD hs k h0 (by omega)
   omega
  ·rw [e1, a5Q hp (by omega) ep]
   have ee : k - 1 + 1 = k := by omega
   simp only [ee]
   exact u1
def a9J (s : TStore) (f : TFile) : Bool := bV s && (decide (0 ≤ ixF f.fID s.fFiles) && dX s.fSchema f)
def b1r (s : TStore) (f : TFile) : TStore := if a9J s f then ⟨s.fSchema, s.fFiles.set (ixF f.fID s.fFiles).toNat f, s.fNextID⟩ else s
end Go.Proofs.YtakopfjdmmnjcaaDoor
end
section
set_option maxRecDepth 100000
set_option maxHeartbeats 4000000
namespace Go.Proofs.YtakopfjdmmnjcaaDoor
open Go Go.Sx Go.RowKit Go.Proofs
theorem a2U (id : Int) (x : TFile) : FnC Tryd.prog 59 [mI x, .o (.q [iv id])] (ob (decide (x.fID = id))) := by
 refine ent Tryd.func59 rfl Tryd.call59 rfl (fun C => ?_); simp only [go_sem, st0, Tryd.ntmps59]
 refine aL ?_
 exact aA ⟨⟨_, rfl, by simp only [go_sem]⟩, trivial⟩
theorem zB (s : TStore) (id : Int) (hl : s.fFiles.length ≤ 4300000) : FnC Tryd.prog 42 [fA s, oi id] (oi (ixF id s.fFiles)) := by
 refine ent Tryd.func42 rfl Tryd.call42 rfl (fun C => ?_); simp only [go_sem, st0, Tryd.ntmps42]
 refine wM (tF _ _ (fun x => decide (x.fID = id)) s.fFiles (fun y _ => a2U id y) (by omega)) ?_
 exact aA ⟨⟨_, rfl, by simp only [go_sem, ixF]⟩, trivial⟩
theorem nL (s : TStore) (id : Int) (hl : s.fFiles.length ≤ 4300000) : FnC Tryd.prog 48 [fA s, oi id] (oi (ixF id s.fFiles)) := by
 refine ent Tryd.func48 rfl Tryd.call48 rfl (fun C => ?_); simp only [go_sem, st0, Tryd.ntmps48]
 refine aL ?_
 refine bX (α := Nat) (fun k => [(5, oi k)]) (fun _ => []) (fun k => k ≤ s.fFiles.length ∧ ixF id s.fFiles = idxP (fun f => decide (f.fID = id)) (s.fFiles.drop k) k) (fun k => s.fFiles.length - k) 0 (fun _ => ?_) ?_ ?_ (fun k hk => ?_)
 ·simp only [go_sem]
 ·simp only [go_sem]; simp
 ·simp [ixF]
 ·obtain ⟨hk, hq⟩ := hk
  simp only [go_sem]
  refine aL ?_
  refine cnd rfl (fun h => ?_) (fun h => ?_)
  ·simp only [decide_eq_true_eq, Int.ofNat_lt] at h
   have hd := List.drop_eq_getElem_cons h
   rw [hd, idxP] at hq
   by_cases h2 : s.fFiles[k].fID = id
   ·rw [if_pos (by simp [h2])] at hq
    have q0 := @h; have q1 := @h2; have q2 := @decide_true; refine rM ?_
    exact aA ⟨⟨_, rfl, by simp only [go_sem, hq]⟩, trivial⟩
   ·rw [if_neg (by simp [h2])] at hq
    have q0 := @h; have q1 := @h2; have q2 := @decide_false; refine rM ?_
    refine bF (k + 1) ?_ ?_ ?_
    ·simp only [go_sem]; simp
    ·rw [hq]; exact ⟨h, by simp⟩
    ·omega
  ·simp only [decide_eq_false_iff_not] at h
   have e : k = s.fFiles.length := by omega
   subst e
   simp only [List.drop_length, idxP] at hq
   refine aL ?_
   exact aA ⟨⟨_, rfl, by simp only [go_sem, hq]⟩, trivial⟩
theorem a1M (s : TStore) (id : Int) (h : bM s ≤ 4300000) : FnC Tryd.prog 18 [fA s, oi id] (.t [(true, (yP (eG id s.fFiles)).cells), (false, [.d (bv (decide (0 ≤ ixF id s.fFiles)))])]) := by
 have hl : s.fFiles.length ≤ 4300000 := by unfold bM gV at h; omega
 refine ent Tryd.func18 rfl Tryd.call18 rfl (fun C => ?_); simp only [go_sem, st0, Tryd.ntmps18]
 rcases ixF_cases id s.fFiles with e | ⟨p, e, hp, _⟩
 ·have e1 := sD e
  have hz : ¬ (0 : Int) ≤ -1 := by omega
  have hk := zB s id hl
  rw [e] at hk
  have q0 := @hz; have q1 := @decide_false; refine a8T hk ?_
  exact aA ⟨⟨_, rfl, by simp only [go_sem, e, e1, hz, decide_false, zF, List.map_nil]; try simp⟩, by simp [fK]⟩
 ·have e1 := nV e hp
  have hz : (0 : Int) ≤ (p : Int) := by omega
  have hw := eD dC s.fFiles hp
  have hx : s.fFiles[p].fAttrs.length ≤ 4300000 := by
   have e : s.fFiles[p].fAttrs.length ≤ dC s.fFiles[p] := by unfold dC iM; omega
   unfold bM gV at h; omega
  have hk := zB s id hl
  rw [e] at hk
  have q0 := @hz; have q1 := @hp; have q2 := @decide_true; have q3 := @Int.toNat_natCast; refine a4i hk (a4z s.fFiles[p] hx) ?_
  exact aA ⟨⟨_, rfl, by simp only [go_sem, e, e1, hz, decide_true]; try simp⟩, by simp [fK]⟩
theorem a1N (s : TStore) (id : Int) (h : bM s ≤ 4300000) : FnC Tryd.prog 26 [fA s, oi id] (.t [(true, (yP (eG id s.fFiles)).cells), (false, [.d (bv (decide (0 ≤ ixF id s.fFiles)))])]) := by
 have hl : s.fFiles.length ≤ 4300000 := by unfold bM gV at h; omega
 refine ent Tryd.func26 rfl Tryd.call26 rfl (fun C => ?_); simp only [go_sem, st0, Tryd.ntmps26]
 rcases ixF_cases id s.fFiles with e | ⟨p, e, hp, _⟩
 ·have e1 := sD e
  have hz : ¬ (0 : Int) ≤ -1 := by omega
  have hy : (-1 : Int) < 0 := by omega
  have hk := nL s id hl
  rw [e] at hk
  have q0 := @hy; have q1 := @decide_true; refine a8T hk ?_
  exact aA ⟨⟨_, rfl, by simp only [go_sem, e, e1, hz, decide_false, zF, List.map_nil]; try simp⟩, by simp [fK]⟩
 ·have e1 := nV e hp
  have hz : (0 : Int) ≤ (p : Int) := by omega
  have hy : ¬ (p : Int) < 0 := by omega
  have hw := eD dC s.fFiles hp
  have hx : s.fFiles[p].fAttrs.length ≤ 4300000 := by
   have e : s.fFiles[p].fAttrs.length ≤ dC s.fFiles[p] := by unfold dC iM; omega
   unfold bM gV at h; omega
  have hk := nL s id hl
  rw [e] at hk
  have q0 := @hy; have q1 := @hp; have q2 := @decide_false; have q3 := @Int.toNat_natCast; refine a4i hk (lF s.fFiles[p] hx) ?_
  exact aA ⟨⟨_, rfl, by simp only [go_sem, e, e1, hz, decide_true]; try simp⟩, by simp [fK]⟩
end Go.Proofs.YtakopfjdmmnjcaaDoor
end
