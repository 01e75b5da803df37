/- Joined texts. -/
import Derived.Test.YteaaopodnbjpoaaGreatZ08
set_option linter.all false
section
set_option maxRecDepth 100000
set_option maxHeartbeats 4000000
namespace Go.Proofs.YteaaopodnbjpoaaGreat
open Go Go.Sx Go.RowKit Go.Proofs
def rP {α : Type} (g : α → ByteArray) (l : List α) (k : Nat) : Bool := decide (k = 0) || (match l[k - 1]?, l[k]? with
 | some p, some x => gQ (g p) (g x)
 | _, _ => true)
theorem rQ {α : Type} (g : α → ByteArray) (l : List α) (k : Nat) (h : ¬ 0 < k) : rP g l k = true := by
 have e : k = 0 := by omega
 simp [rP, e]
theorem kS {α : Type} (g : α → ByteArray) (l : List α) (k : Nat) (h : 0 < k) (hl : k < l.length) : rP g l k = gQ (g (l[k - 1]'(by omega))) (g l[k]) := by
 have h1 : k - 1 < l.length := by omega
 have e : ¬ k = 0 := by omega
 simp [rP, e, List.getElem?_eq_getElem h1, List.getElem?_eq_getElem hl]
def a7M (l : List TFile) (k : Nat) : Bool := decide (k = 0) || (match l[k - 1]?, l[k]? with
 | some p, some x => !decide (x.fID ≤ p.fID)
 | _, _ => true)
theorem b1h (l : List TFile) (k : Nat) (h : ¬ 0 < k) : a7M l k = true := by
 have e : k = 0 := by omega
 simp [a7M, e]
theorem a1j (l : List TFile) (k : Nat) (h : 0 < k) (hl : k < l.length) : a7M l k = !decide (l[k].fID ≤ (l[k - 1]'(by omega)).fID) := by
 have h1 : k - 1 < l.length := by omega
 have e : ¬ k = 0 := by omega
 simp only [a7M, e, decide_false, Bool.false_or, List.getElem?_eq_getElem h1, List.getElem?_eq_getElem hl]
def gX (s : ByteArray) : List TField → Int
 | [] => 0
 | f :: l => if f.fName = s then f.fKind else gX s l
theorem xV (s : ByteArray) (l : List TField) (k : Nat) (h : k < l.length) : gX s (l.drop k) = if l[k].fName = s then l[k].fKind else gX s (l.drop (k + 1)) := by
 rw [List.drop_eq_getElem_cons h]; rfl
def iU (s : List TField) (k : Nat) : Bool := match s[k]? with
 | none => true
 | some f => cK f.fName 1 && (inB f.fKind 1 2 && rP TField.fName s k)
def okSchema (s : List TField) : Bool := (List.range s.length).all (iU s) && decide ((s.length : Int) ≤ 5)
def oV (s : List TField) (n : ByteArray) (v : TValue) : Bool := gK v && (!decide (v.fKind = 0) && decide (v.fKind = gX n s))
def iC (s : List TField) (l : List TAttr) (k : Nat) : Bool := match l[k]? with
 | none => true
 | some a => rP TAttr.fName l k && oV s a.fName a.fValue
def eG (s : List TField) (f : TFile) : Bool := (List.range f.fAttrs.length).all (iC s f.fAttrs) && (inB f.fID 1 60 && (inB f.fOwner 0 2 && (inB f.fLink 0 60 && okSchema s)))
def iD (x : TStore) (k : Nat) : Bool := match x.fFiles[k]? with
 | none => true
 | some f => eG x.fSchema f && (!decide (x.fNextID ≤ f.fID) && a7M x.fFiles k)
def dC (x : TStore) : Bool := (List.range x.fFiles.length).all (iD x) && (okSchema x.fSchema && (decide ((x.fFiles.length : Int) ≤ 12) && inB x.fNextID 1 61))
def kT (d : List TDir) (k : Nat) : Bool := match d[k]? with
 | none => true
 | some x => cK x.fName 6 && (rP TDir.fName d k && okQ x.fQuery)
def dR (d : List TDir) : Bool := (List.range d.length).all (kT d) && decide ((d.length : Int) ≤ 5)
theorem nH (l : List TField) (s : ByteArray) (hl : l.length ≤ 4300000) : FnC Tryz.prog 305 [.o (.d (.sl (l.map bM))), os s] (oi (gX s l)) := by
 generalize hg : gX s l = res
 refine ent Tryz.func305 rfl Tryz.call305 rfl (fun C => ?_); simp only [go_sem, st0, Tryz.ntmps305]
 refine aD ?_
 refine aM (α := Nat) (fun k => [(9, oi k)]) (fun k => []) (fun k => k ≤ l.length ∧ gX s (l.drop k) = res) (fun k => l.length - k) 0 (fun _ => ?_) ?_ ?_ (fun k hk => ?_)
 ·simp only [go_sem]
 ·simp only [go_sem]; simp
 ·simp [hg]
 ·simp only [go_sem]
  obtain ⟨hk, hq⟩ := hk
  refine aD ?_
  refine cnd rfl (fun h1 => ?_) (fun h1 => ?_)
  ·simp only [decide_eq_true_eq, Int.ofNat_lt] at h1
   rw [xV s l k h1] at hq
   by_cases hv : l[k].fName = s
   ·rw [if_pos hv] at hq
    have q0 := @h1; have q1 := @hv; have q2 := @decide_true; refine lT ?_
    exact aA ⟨⟨_, rfl, by simp only [go_sem, hq]⟩, trivial⟩
   ·rw [if_neg hv] at hq
    have q0 := @h1; have q1 := @hv; have q2 := @decide_false; refine lT ?_
    refine aC (k + 1) ?_ ?_ ?_
    ·simp only [go_sem]; simp
    ·exact ⟨by omega, hq⟩
    ·omega
  ·simp only [decide_eq_false_iff_not] at h1
   have e : k = l.length := by omega
   subst e
   rw [List.drop_length] at hq
   have hn : res = 0 := hq.symm
   subst hn
   refine aD ?_
   exact aA ⟨⟨_, rfl, by simp only [go_sem]⟩, trivial⟩
theorem iV (s : List TField) (n : ByteArray) (v : TValue) (hl : s.length ≤ 4300000) (hs : v.fStr.size ≤ 4300000) : FnC Tryz.prog 275 [.o (.d (.sl (s.map bM))), os n, mI v] (ob (oV s n v)) := by
 have hr : oV s n v = (gK v && (!decide (v.fKind = 0) && decide (v.fKind = gX n s))) := rfl
 refine ent Tryz.func275 rfl Tryz.call275 rfl (fun C => ?_); simp only [go_sem, st0, Tryz.ntmps275]
 have q0 := @decide_true; have q1 := @decide_false; refine sI (aF v hs) (nH s n hl) ?_
 cases hv : gK v
 ·rw [hv] at hr
  simp only [go_sem, hv]
  have q0 := @decide_true; have q1 := @decide_false; have q2 := @hv; refine lT ?_
  exact aA ⟨⟨_, rfl, by simp only [go_sem, hr, bT, decide_true, decide_false]⟩, trivial⟩
 ·rw [hv] at hr
  simp only [go_sem, hv]
  have q0 := @decide_true; have q1 := @decide_false; have q2 := @hv; refine a9i (aF v hs) (nH s n hl) ?_
  by_cases hk : v.fKind = 0
  ·simp only [hk, decide_true] at hr
   simp only [go_sem, hk, decide_true]
   have q0 := @decide_true; have q1 := @decide_false; have q2 := @hv; have q3 := @hk; refine kC ?_
   exact aA ⟨⟨_, rfl, by simp only [go_sem, hr, bT, decide_true, decide_false]⟩, trivial⟩
  ·simp only [hk, decide_false] at hr
   simp only [go_sem, hk, decide_false]
   have q0 := @decide_true; have q1 := @decide_false; have q2 := @hv; have q3 := @hk; refine a1a (aF v hs) (nH s n hl) ?_
   exact aA ⟨⟨_, rfl, by simp only [go_sem, hr, bT, decide_true, decide_false]⟩, trivial⟩
theorem iJ (s : List TField) (hl : aN s ≤ 4300000) : FnC Tryz.prog 254 [.o (.d (.sl (s.map bM)))] (ob (okSchema s)) := by
 unfold aN at hl
 refine ent Tryz.func254 rfl Tryz.call254 rfl (fun C => ?_); simp only [go_sem, st0, Tryz.ntmps254]
 refine aD ?_
 refine aM (α := Nat) (fun k => [(7, oi k)]) (fun _ => []) (fun k => k ≤ s.length ∧ (List.range s.length).all (iU s) = ((List.range s.length).drop k).all (iU s)) (fun k => s.length - k) 0 (fun _ => ?_) ?_ ?_ (fun k hk => ?_)
 ·simp only [go_sem]
 ·simp only [go_sem]; simp
 ·simp
 ·obtain ⟨hk, hq⟩ := hk
  simp only [go_sem]
  refine aD ?_
  refine cnd rfl (fun h => ?_) (fun h => ?_)
  ·simp only [decide_eq_true_eq, Int.ofNat_lt] at h
   have h' : k < (List.range s.length).length := by simpa using h
   have hd := List.drop_eq_getElem_cons h'
   rw [hd, List.all_cons, List.getElem_range] at hq
   have hw := bB wField s h
   have hw1 : s[k].fName.size ≤ wField s[k] := by unfold wField; omega
   have hr : iU s k = (cK s[k].fName 1 && (inB s[k].fKind 1 2 && rP TField.fName s k)) := by unfold iU; rw [List.getElem?_eq_getElem h]
   have q0 := @h; have q1 := @decide_true; have q2 := @decide_false; refine jP (aB s[k].fName) ?_
   cases ht : cK s[k].fName 1
   ·rw [ht] at hr
    simp only [go_sem, ht]
    have q0 := @h; have q1 := @decide_true; have q2 := @decide_false; have q3 := @ht; refine kC ?_
    have hf : okSchema s = false := by
     unfold okSchema
     rw [hq, hr]; simp
    exact aA ⟨⟨_, rfl, by simp only [go_sem, hf]⟩, trivial⟩
   ·rw [ht] at hr
    simp only [go_sem, ht]
    have q0 := @h; have q1 := @decide_true; have q2 := @decide_false; have q3 := @ht; refine a2e (aB s[k].fName) ?_
    cases hb : inB s[k].fKind 1 2
    ·rw [hb] at hr
     have hb2 : ¬ (1 ≤ s[k].fKind ∧ s[k].fKind ≤ 2) := by intro hx; simp [inB, hx.1, hx.2] at hb
     have k1 : ¬ s[k].fKind = 1 := by omega
     have k2 : ¬ s[k].fKind = 2 := by omega
     simp only [go_sem, k1, k2, decide_false]
     have q0 := @h; have q1 := @decide_true; have q2 := @decide_false; have q3 := @ht; have q4 := @k1; have q5 := @k2; refine b5f ?_
     have hf : okSchema s = false := by
      unfold okSchema
      rw [hq, hr]; simp
     exact aA ⟨⟨_, rfl, by simp only [go_sem, hf]⟩, trivial⟩
    ·rw [hb] at hr
     have hb2 : 1 ≤ s[k].fKind ∧ s[k].fKind ≤ 2 := by simpa [inB] using hb
     by_cases k1 : s[k].fKind = 1
     ·simp only [go_sem, k1, decide_true]
      have q0 := @h; have q1 := @decide_true; have q2 := @decide_false; have q3 := @ht; have q4 := @k1; refine a3r (aB s[k].fName) ?_
      by_cases hk0 : 0 < k
      ·have hki : (0 : Int) < (k : Int) := by omega
       have hkx : (k : Int) - 1 = ((k - 1 : Nat) : Int) := by omega
       have hkl : k - 1 < s.length := by omega
       rw [kS TField.fName s k hk0 h] at hr
       simp only [go_sem, hki, hkx, hkl, decide_true]
       have q0 := @h; have q1 := @decide_true; have q2 := @decide_false; have q3 := @ht; have q4 := @k1; have q5 := @hki; have q6 := @hkx; have q7 := @hkl; refine a1d (aB s[k].fName) ?_
       cases ho : gQ (TField.fName s[k - 1]) (TField.fName s[k])
       ·rw [ho] at hr
        simp only [go_sem, ho]
        have q0 := @h; have q1 := @decide_true; have q2 := @decide_false; have q3 := @ht; have q4 := @k1; have q5 := @hki; have q6 := @hkx; have q7 := @hkl; have q8 := @ho; refine a2f ?_
        have hf : okSchema s = false := by
         unfold okSchema
         rw [hq, hr]; simp
        exact aA ⟨⟨_, rfl, by simp only [go_sem, hf]⟩, trivial⟩
       ·rw [ho] at hr
        simp only [go_sem, ho]
        have q0 := @h; have q1 := @decide_true; have q2 := @decide_false; have q3 := @ht; have q4 := @k1; have q5 := @hki; have q6 := @hkx; have q7 := @hkl; have q8 := @ho; refine a9k (aB s[k].fName) ?_
        refine aC (k + 1) ?_ ?_ ?_
        ·simp only [go_sem]; simp
        ·refine ⟨h, ?_⟩
         rw [hq, hr]; simp
        ·omega
      ·have hki : ¬ (0 : Int) < (k : Int) := by omega
       rw [rQ TField.fName s k hk0] at hr
       simp only [go_sem, hki, decide_false]
       have q0 := @h; have q1 := @decide_true; have q2 := @decide_false; have q3 := @ht; have q4 := @k1; have q5 := @hki; refine a1c (aB s[k].fName) ?_
       refine aC (k + 1) ?_ ?_ ?_
       ·simp only [go_sem]; simp
       ·refine ⟨h, ?_⟩
        rw [hq, hr]; simp
       ·omega
     ·have k2 : s[k].fKind = 2 := by omega
      simp only [go_sem, k1, k2, decide_true, decide_false]
      have q0 := @h; have q1 := @decide_true; have q2 := @decide_false; have q3 := @ht; have q4 := @k1; have q5 := @k2; refine a1c (aB s[k].fName) ?_
      by_cases hk0 : 0 < k
      ·have hki : (0 : Int) < (k : Int) := by omega
       have hkx : (k : Int) - 1 = ((k - 1 : Nat) : Int) := by omega
       have hkl : k - 1 < s.length := by omega
       rw [kS TField.fName s k hk0 h] at hr
       simp only [go_sem, hki, hkx, hkl, decide_true]
       have q0 := @h; have q1 := @decide_true; have q2 := @decide_false; have q3 := @ht; have q4 := @k1; have q5 := @k2; have q6 := @hki; have q7 := @hkx; have q8 := @hkl; refine a9k (aB s[k].fName) ?_
       cases ho : gQ (TField.fName s[k - 1]) (TField.fName s[k])
       ·rw [ho] at hr
        simp only [go_sem, ho]
        have q0 := @h; have q1 := @decide_true; have q2 := @decide_false; have q3 := @ht; have q4 := @k1; have q5 := @k2; have q6 := @hki; have q7 := @hkx; have q8 := @hkl; have q9 := @ho; refine tT ?_
        have hf : okSchema s = false := by
         unfold okSchema
         rw [hq, hr]; simp
        exact aA ⟨⟨_, rfl, by simp only [go_sem, hf]⟩, trivial⟩
       ·rw [ho] at hr
        simp only [go_sem, ho]
        have q0 := @h; have q1 := @decide_true; have q2 := @decide_false; have q3 := @ht; have q4 := @k1; have q5 := @k2; have q6 := @hki; have q7 := @hkx; have q8 := @hkl; have q9 := @ho; refine b2l (aB s[k].fName) ?_
        refine aC (k + 1) ?_ ?_ ?_
        ·simp only [go_sem]; simp
        ·refine ⟨h, ?_⟩
         rw [hq, hr]; simp
        ·omega
      ·have hki : ¬ (0 : Int) < (k : Int) := by omega
       rw [rQ TField.fName s k hk0] at hr
       simp only [go_sem, hki, decide_false]
       have q0 := @h; have q1 := @decide_true; have q2 := @decide_false; have q3 := @ht; have q4 := @k1; have q5 := @k2; have q6 := @hki; refine a5Y (aB s[k].fName) ?_
       refine aC (k + 1) ?_ ?_ ?_
       ·simp only [go_sem]; simp
       ·refine ⟨h, ?_⟩
        rw [hq, hr]; simp
       ·omega
  ·simp only [decide_eq_false_iff_not] at h
   have e : k = s.length := by omega
   have hq' : (List.range s.length).all (iU s) = true := by
    rw [hq, List.drop_of_length_le (by simp [e])]; rfl
   have hr : okSchema s = decide ((s.length : Int) ≤ 5) := by unfold okSchema; rw [hq']; simp only [Bool.true_and]
   have q0 := @decide_true; have q1 := @decide_false; refine fI ?_
   exact aA ⟨⟨_, rfl, by simp only [go_sem, hr, bT, decide_true, decide_false]⟩, trivial⟩
theorem jS (n : Int) : FnC Tryz.prog 102 [oi n] (ob (inB n 0 2)) := by
 refine ent Tryz.func102 rfl Tryz.call102 rfl (fun C => ?_); simp only [go_sem, st0, Tryz.ntmps102]
 refine fK (aQ n 0 2) ?_
 exact aA ⟨⟨_, rfl, by simp only [go_sem]⟩, trivial⟩
theorem jE (s : List TField) (f : TFile) (hl : aN s ≤ 4300000) (hf : wFile f ≤ 4300000) : FnC Tryz.prog 228 [.o (.d (.sl (s.map bM))), bC f] (ob (eG s f)) := by
 unfold aN at hl
 unfold wFile aV at hf
 refine ent Tryz.func228 rfl Tryz.call228 rfl (fun C => ?_); simp only [go_sem, st0, Tryz.ntmps228]
 refine aD ?_
 refine aM (α := Nat) (fun k => [(10, oi k)]) (fun _ => []) (fun k => k ≤ f.fAttrs.length ∧ (List.range f.fAttrs.length).all (iC s f.fAttrs) = ((List.range f.fAttrs.length).drop k).all (iC s f.fAttrs)) (fun k => f.fAttrs.length - k) 0 (fun _ => ?_) ?_ ?_ (fun k hk => ?_)
 ·simp only [go_sem]
 ·simp only [go_sem]; simp
 ·simp
 ·obtain ⟨hk, hq⟩ := hk
  simp only [go_sem]
  refine aD ?_
  refine cnd rfl (fun h => ?_) (fun h => ?_)
  ·simp only [decide_eq_true_eq, Int.ofNat_lt] at h
   have h' : k < (List.range f.fAttrs.length).length := by simpa using h
   have hd := List.drop_eq_getElem_cons h'
   rw [hd, List.all_cons, List.getElem_range] at hq
   have hw := bB wAttr f.fAttrs h
   have hw1 : f.fAttrs[k].fName.size + f.fAttrs[k].fValue.fStr.size ≤ wAttr f.fAttrs[k] := by unfold wAttr fV; omega
   have hr : iC s f.fAttrs k = (rP TAttr.fName f.fAttrs k && oV s f.fAttrs[k].fName f.fAttrs[k].fValue) := by unfold iC; rw [List.getElem?_eq_getElem h]
   have q0 := @h; have q1 := @decide_true; have q2 := @decide_false; refine jP (iV s f.fAttrs[k].fName f.fAttrs[k].fValue (by omega) (by omega)) ?_
   by_cases hk0 : 0 < k
   ·have hki : (0 : Int) < (k : Int) := by omega
    have hkx : (k : Int) - 1 = ((k - 1 : Nat) : Int) := by omega
    have hkl : k - 1 < f.fAttrs.length := by omega
    rw [kS TAttr.fName f.fAttrs k hk0 h] at hr
    simp only [go_sem, hki, hkx, hkl, decide_true]
    have q0 := @h; have q1 := @decide_true; have q2 := @decide_false; have q3 := @hki; have q4 := @hkx; have q5 := @hkl; refine a1c (iV s f.fAttrs[k].fName f.fAttrs[k].fValue (by omega) (by omega)) ?_
    cases ho : gQ (TAttr.fName f.fAttrs[k - 1]) (TAttr.fName f.fAttrs[k])
    ·rw [ho] at hr
     simp only [go_sem, ho]
     have q0 := @h; have q1 := @decide_true; have q2 := @decide_false; have q3 := @hki; have q4 := @hkx; have q5 := @hkl; have q6 := @ho; refine a9j ?_
     have hf : eG s f = false := by
      unfold eG
      rw [hq, hr]; simp
     exact aA ⟨⟨_, rfl, by simp only [go_sem, hf]⟩, trivial⟩
    ·rw [ho] at hr
     simp only [go_sem, ho]
     have q0 := @h; have q1 := @decide_true; have q2 := @decide_false; have q3 := @hki; have q4 := @hkx; have q5 := @hkl; have q6 := @ho; refine a5Y (iV s f.fAttrs[k].fName f.fAttrs[k].fValue (by omega) (by omega)) ?_
     cases hm : oV s f.fAttrs[k].fName f.fAttrs[k].fValue
     ·rw [hm] at hr
      simp only [go_sem, hm]
      have q0 := @h; have q1 := @decide_true; have q2 := @decide_false; have q3 := @hki; have q4 := @hkx; have q5 := @hkl; have q6 := @ho; have q7 := @hm; refine a4o ?_
      have hf : eG s f = false := by
       unfold eG
       rw [hq, hr]; simp
      exact aA ⟨⟨_, rfl, by simp only [go_sem, hf]⟩, trivial⟩
     ·rw [hm] at hr
      simp only [go_sem, hm]
      have q0 := @h; have q1 := @decide_true; have q2 := @decide_false; have q3 := @hki; have q4 := @hkx; have q5 := @hkl; have q6 := @ho; have q7 := @hm; refine a1d (iV s f.fAttrs[k].fName f.fAttrs[k].fValue (by omega) (by omega)) ?_
      refine aC (k + 1) ?_ ?_ ?_
      ·simp only [go_sem]; simp
      ·refine ⟨h, ?_⟩
       rw [hq, hr]; simp
      ·omega
   ·have hki : ¬ (0 : Int) < (k : Int) := by omega
    rw [rQ TAttr.fName f.fAttrs k hk0] at hr
    simp only [go_sem, hki, decide_false]
    have q0 := @h; have q1 := @decide_true; have q2 := @decide_false; have q3 := @hki; refine a2e (iV s f.fAttrs[k].fName f.fAttrs[k].fValue (by omega) (by omega)) ?_
    cases hm : oV s f.fAttrs[k].fName f.fAttrs[k].fValue
    ·rw [hm] at hr
     simp only [go_sem, hm]
     have q0 := @h; have q1 := @decide_true; have q2 := @decide_false; have q3 := @hki; have q4 := @hm; refine a1b ?_
     have hf : eG s f = false := by
      unfold eG
      rw [hq, hr]; simp
     exact aA ⟨⟨_, rfl, by simp only [go_sem, hf]⟩, trivial⟩
    ·rw [hm] at hr
     simp only [go_sem, hm]
     have q0 := @h; have q1 := @decide_true; have q2 := @decide_false; have q3 := @hki; have q4 := @hm; refine a3r (iV s f.fAttrs[k].fName f.fAttrs[k].fValue (by omega) (by omega)) ?_
     refine aC (k + 1) ?_ ?_ ?_
     ·simp only [go_sem]; simp
     ·refine ⟨h, ?_⟩
      rw [hq, hr]; simp
     ·omega
  ·simp only [decide_eq_false_iff_not] at h
   have e : k = f.fAttrs.length := by omega
   have hq' : (List.range f.fAttrs.length).all (iC s f.fAttrs) = true := by
    rw [hq, List.drop_of_length_le (by simp [e])]; rfl
   have hr : eG s f = (inB f.fID 1 60 && (inB f.fOwner 0 2 && (inB f.fLink 0 60 && okSchema s))) := by unfold eG; rw [hq']; simp only [Bool.true_and]
   have q0 := @decide_true; have q1 := @decide_false; refine b3x (aQ f.fID 1 60) (jS f.fOwner) (aQ f.fLink 0 60) (iJ s (by unfold aN; omega)) ?_
   cases h1 : inB f.fID 1 60
   ·rw [h1] at hr
    simp only [go_sem, h1]
    have q0 := @decide_true; have q1 := @decide_false; have q2 := @h1; refine lT ?_
    exact aA ⟨⟨_, rfl, by simp only [go_sem, hr, bT, decide_true, decide_false]⟩, trivial⟩
   ·rw [h1] at hr
    simp only [go_sem, h1]
    have q0 := @decide_true; have q1 := @decide_false; have q2 := @h1; refine b9n (aQ f.fID 1 60) (jS f.fOwner) (aQ f.fLink 0 60) (iJ s (by unfold aN; omega)) ?_
    cases h2 : inB f.fOwner 0 2
    ·rw [h2] at hr
     simp only [go_sem, h2]
     have q0 := @decide_true; have q1 := @decide_false; have q2 := @h1; have q3 := @h2; refine kC ?_
     exact aA ⟨⟨_, rfl, by simp only [go_sem, hr, bT, decide_true, decide_false]⟩, trivial⟩
    ·rw [h2] at hr
     simp only [go_sem, h2]
     have q0 := @decide_true; have q1 := @decide_false; have q2 := @h1; have q3 := @h2; refine b8t (aQ f.fID 1 60) (jS f.fOwner) (aQ f.fLink 0 60) (iJ s (by unfold aN; omega)) ?_
     cases h3 : inB f.fLink 0 60
     ·rw [h3] at hr
      simp only [go_sem, h3]
      have q0 := @decide_true; have q1 := @decide_false; have q2 := @h1; have q3 := @h2; have q4 := @h3; refine a1b ?_
      exact aA ⟨⟨_, rfl, by simp only [go_sem, hr, bT, decide_true, decide_false]⟩, trivial⟩
     ·rw [h3] at hr
      simp only [go_sem, h3]
      have q0 := @decide_true; have q1 := @decide_false; have q2 := @h1; have q3 := @h2; have q4 := @h3; refine b9p (aQ f.fID 1 60) (jS f.fOwner) (aQ f.fLink 0 60) (iJ s (by unfold aN; omega)) ?_
      exact aA ⟨⟨_, rfl, by simp only [go_sem, hr, bT, decide_true, decide_false]⟩, trivial⟩
theorem fU (x : TStore) (hx : aL x ≤ 4300000) : FnC Tryz.prog 209 [cB x] (ob (dC x)) := by
 unfold aL aN cZ at hx
 refine ent Tryz.func209 rfl Tryz.call209 rfl (fun C => ?_); simp only [go_sem, st0, Tryz.ntmps209]
 refine aD ?_
 refine aM (α := Nat) (fun k => [(8, oi k)]) (fun _ => []) (fun k => k ≤ x.fFiles.length ∧ (List.range x.fFiles.length).all (iD x) = ((List.range x.fFiles.length).drop k).all (iD x)) (fun k => x.fFiles.length - k) 0 (fun _ => ?_) ?_ ?_ (fun k hk => ?_)
 ·simp only [go_sem]
 ·simp only [go_sem]; simp
 ·simp
 ·obtain ⟨hk, hq⟩ := hk
  simp only [go_sem]
  refine aD ?_
  refine cnd rfl (fun h => ?_) (fun h => ?_)
  ·simp only [decide_eq_true_eq, Int.ofNat_lt] at h
   have h' : k < (List.range x.fFiles.length).length := by simpa using h
   have hd := List.drop_eq_getElem_cons h'
   rw [hd, List.all_cons, List.getElem_range] at hq
   have hw := bB wFile x.fFiles h
   have hr : iD x k = (eG x.fSchema x.fFiles[k] && (!decide (x.fNextID ≤ x.fFiles[k].fID) && a7M x.fFiles k)) := by unfold iD; rw [List.getElem?_eq_getElem h]
   have q0 := @h; have q1 := @decide_true; have q2 := @decide_false; refine jP (jE x.fSchema x.fFiles[k] (by unfold aN; omega) (by omega)) ?_
   cases hm : eG x.fSchema x.fFiles[k]
   ·rw [hm] at hr
    simp only [go_sem, hm]
    have q0 := @h; have q1 := @decide_true; have q2 := @decide_false; have q3 := @hm; refine kC ?_
    have hf : dC x = false := by
     unfold dC
     rw [hq, hr]; simp
    exact aA ⟨⟨_, rfl, by simp only [go_sem, hf]⟩, trivial⟩
   ·rw [hm] at hr
    simp only [go_sem, hm]
    have q0 := @h; have q1 := @decide_true; have q2 := @decide_false; have q3 := @hm; refine a2e (jE x.fSchema x.fFiles[k] (by unfold aN; omega) (by omega)) ?_
    by_cases hn : x.fNextID ≤ x.fFiles[k].fID
    ·simp only [hn, decide_true] at hr
     simp only [go_sem, hn, decide_true]
     have q0 := @h; have q1 := @decide_true; have q2 := @decide_false; have q3 := @hm; have q4 := @hn; refine a1b ?_
     have hf : dC x = false := by
      unfold dC
      rw [hq, hr]; simp
     exact aA ⟨⟨_, rfl, by simp only [go_sem, hf]⟩, trivial⟩
    ·simp only [hn, decide_false] at hr
     simp only [go_sem, hn, decide_false]
     have q0 := @h; have q1 := @decide_true; have q2 := @decide_false; have q3 := @hm; have q4 := @hn; refine a3r (jE x.fSchema x.fFiles[k] (by unfold aN; omega) (by omega)) ?_
     by_cases hk0 : 0 < k
     ·have hki : (0 : Int) < (k : Int) := by omega
      have hkx : (k : Int) - 1 = ((k - 1 : Nat) : Int) := by omega
      have hkl : k - 1 < x.fFiles.length := by omega
      rw [a1j x.fFiles k hk0 h] at hr
      simp only [go_sem, hki, hkx, hkl, decide_true]
      have q0 := @h; have q1 := @decide_true; have q2 := @decide_false; have q3 := @hm; have q4 := @hn; have q5 := @hki; have q6 := @hkx; have q7 := @hkl; refine a1d (jE x.fSchema x.fFiles[k] (by unfold aN; omega) (by omega)) ?_
      by_cases ho : x.fFiles[k].fID ≤ x.fFiles[k - 1].fID
      ·simp only [ho, decide_true] at hr
       simp only [go_sem, ho, decide_true]
       have q0 := @h; have q1 := @decide_true; have q2 := @decide_false; have q3 := @hm; have q4 := @hn; have q5 := @hki; have q6 := @hkx; have q7 := @hkl; have q8 := @ho; refine a2f ?_
       have hf : dC x = false := by
        unfold dC
        rw [hq, hr]; simp
       exact aA ⟨⟨_, rfl, by simp only [go_sem, hf]⟩, trivial⟩
      ·simp only [ho, decide_false] at hr
       simp only [go_sem, ho, decide_false]
       have q0 := @h; have q1 := @decide_true; have q2 := @decide_false; have q3 := @hm; have q4 := @hn; have q5 := @hki; have q6 := @hkx; have q7 := @hkl; have q8 := @ho; refine a9k (jE x.fSchema x.fFiles[k] (by unfold aN; omega) (by omega)) ?_
       refine aC (k + 1) ?_ ?_ ?_
       ·simp only [go_sem]; simp
       ·refine ⟨h, ?_⟩
        rw [hq, hr]; simp
       ·omega
     ·have hki : ¬ (0 : Int) < (k : Int) := by omega
      rw [b1h x.fFiles k hk0] at hr
      simp only [go_sem, hki, decide_false]
      have q0 := @h; have q1 := @decide_true; have q2 := @decide_false; have q3 := @hm; have q4 := @hn; have q5 := @hki; refine a1c (jE x.fSchema x.fFiles[k] (by unfold aN; omega) (by omega)) ?_
      refine aC (k + 1) ?_ ?_ ?_
      ·simp only [go_sem]; simp
      ·refine ⟨h, ?_⟩
       rw [hq, hr]; simp
      ·omega
  ·simp only [decide_eq_false_iff_not] at h
   have e : k = x.fFiles.length := by omega
   have hq' : (List.range x.fFiles.length).all (iD x) = true := by
    rw [hq, List.drop_of_length_le (by simp [e])]; rfl
   have hr : dC x = (okSchema x.fSchema && (decide ((x.fFiles.length : Int) ≤ 12) && inB x.fNextID 1 61)) := by unfold dC; rw [hq']; simp only [Bool.true_and]
   have q0 := @decide_true; have q1 := @decide_false; refine sI (iJ x.fSchema (by unfold aN; omega)) (aQ x.fNextID 1 61) ?_
   cases h0 : okSchema x.fSchema
   ·rw [h0] at hr
    simp only [go_sem, h0]
    have q0 := @decide_true; have q1 := @decide_false; have q2 := @h0; refine lT ?_
    exact aA ⟨⟨_, rfl, by simp only [go_sem, hr, bT, decide_true, decide_false]⟩, trivial⟩
   ·rw [h0] at hr
    simp only [go_sem, h0]
    have q0 := @decide_true; have q1 := @decide_false; have q2 := @h0; refine a9i (iJ x.fSchema (by unfold aN; omega)) (aQ x.fNextID 1 61) ?_
    by_cases h1 : (x.fFiles.length : Int) ≤ 12
    ·simp only [h1, decide_true] at hr
     simp only [go_sem, h1, decide_true]
     have q0 := @decide_true; have q1 := @decide_false; have q2 := @h0; have q3 := @h1; refine a1a (iJ x.fSchema (by unfold aN; omega)) (aQ x.fNextID 1 61) ?_
     exact aA ⟨⟨_, rfl, by simp only [go_sem, hr, bT, decide_true, decide_false]⟩, trivial⟩
    ·simp only [h1, decide_false] at hr
     simp only [go_sem, h1, decide_false]
     have q0 := @decide_true; have q1 := @decide_false; have q2 := @h0; have q3 := @h1; refine kC ?_
     exact aA ⟨⟨_, rfl, by simp only [go_sem, hr, bT, decide_true, decide_false]⟩, trivial⟩
theorem a1k (d : List TDir) (hd : aY d ≤ 4300000) : FnC Tryz.prog 185 [.o (.d (.sl (d.map aS)))] (ob (dR d)) := by
 unfold aY at hd
 refine ent Tryz.func185 rfl Tryz.call185 rfl (fun C => ?_); simp only [go_sem, st0, Tryz.ntmps185]
 refine aD ?_
 refine aM (α := Nat) (fun k => [(7, oi k)]) (fun _ => []) (fun k => k ≤ d.length ∧ (List.range d.length).all (kT d) = ((List.range d.length).drop k).all (kT d)) (fun k => d.length - k) 0 (fun _ => ?_) ?_ ?_ (fun k hk => ?_)
 ·simp only [go_sem]
 ·simp only [go_sem]; simp
 ·simp
 ·obtain ⟨hk, hq⟩ := hk
  simp only [go_sem]
  refine aD ?_
  refine cnd rfl (fun h => ?_) (fun h => ?_)
  ·simp only [decide_eq_true_eq, Int.ofNat_lt] at h
   have h' : k < (List.range d.length).length := by simpa using h
   have hd := List.drop_eq_getElem_cons h'
   rw [hd, List.all_cons, List.getElem_range] at hq
   have hw := bB wDir d h
   have hw1 : d[k].fName.size + bK d[k].fQuery ≤ wDir d[k] := by unfold wDir; omega
   have hr : kT d k = (cK d[k].fName 6 && (rP TDir.fName d k && okQ d[k].fQuery)) := by unfold kT; rw [List.getElem?_eq_getElem h]
   have q0 := @h; have q1 := @decide_true; have q2 := @decide_false; refine a9i (bD d[k].fName (by omega)) (bL d[k].fQuery (by omega)) ?_
   cases ht : cK d[k].fName 6
   ·rw [ht] at hr
    simp only [go_sem, ht]
    have q0 := @h; have q1 := @decide_true; have q2 := @decide_false; have q3 := @ht; refine kC ?_
    have hf : dR d = false := by
     unfold dR
     rw [hq, hr]; simp
    exact aA ⟨⟨_, rfl, by simp only [go_sem, hf]⟩, trivial⟩
   ·rw [ht] at hr
    simp only [go_sem, ht]
    have q0 := @h; have q1 := @decide_true; have q2 := @decide_false; have q3 := @ht; refine a1a (bD d[k].fName (by omega)) (bL d[k].fQuery (by omega)) ?_
    by_cases hk0 : 0 < k
    ·have hki : (0 : Int) < (k : Int) := by omega
     have hkx : (k : Int) - 1 = ((k - 1 : Nat) : Int) := by omega
     have hkl : k - 1 < d.length := by omega
     rw [kS TDir.fName d k hk0 h] at hr
     simp only [go_sem, hki, hkx, hkl, decide_true]
     have q0 := @h; have q1 := @decide_true; have q2 := @decide_false; have q3 := @ht; have q4 := @hki; have q5 := @hkx; have q6 := @hkl; refine b5g (bD d[k].fName (by omega)) (bL d[k].fQuery (by omega)) ?_
     cases ho : gQ (TDir.fName d[k - 1]) (TDir.fName d[k])
     ·rw [ho] at hr
      simp only [go_sem, ho]
      have q0 := @h; have q1 := @decide_true; have q2 := @decide_false; have q3 := @ht; have q4 := @hki; have q5 := @hkx; have q6 := @hkl; have q7 := @ho; refine a4o ?_
      have hf : dR d = false := by
       unfold dR
       rw [hq, hr]; simp
      exact aA ⟨⟨_, rfl, by simp only [go_sem, hf]⟩, trivial⟩
     ·rw [ho] at hr
      simp only [go_sem, ho]
      have q0 := @h; have q1 := @decide_true; have q2 := @decide_false; have q3 := @ht; have q4 := @hki; have q5 := @hkx; have q6 := @hkl; have q7 := @ho; refine b5h (bD d[k].fName (by omega)) (bL d[k].fQuery (by omega)) ?_
      cases hv : okQ d[k].fQuery
      ·rw [hv] at hr
       simp only [go_sem, hv]
       have q0 := @h; have q1 := @decide_true; have q2 := @decide_false; have q3 := @ht; have q4 := @hki; have q5 := @hkx; have q6 := @hkl; have q7 := @ho; have q8 := @hv; refine a2f ?_
       have hf : dR d = false := by
        unfold dR
        rw [hq, hr]; simp
       exact aA ⟨⟨_, rfl, by simp only [go_sem, hf]⟩, trivial⟩
      ·rw [hv] at hr
       simp only [go_sem, hv]
       have q0 := @h; have q1 := @decide_true; have q2 := @decide_false; have q3 := @ht; have q4 := @hki; have q5 := @hkx; have q6 := @hkl; have q7 := @ho; have q8 := @hv; refine a5Z (bD d[k].fName (by omega)) (bL d[k].fQuery (by omega)) ?_
       refine aC (k + 1) ?_ ?_ ?_
       ·simp only [go_sem]; simp
       ·refine ⟨h, ?_⟩
        rw [hq, hr]; simp
       ·omega
    ·have hki : ¬ (0 : Int) < (k : Int) := by omega
     rw [rQ TDir.fName d k hk0] at hr
     simp only [go_sem, hki, decide_false]
     have q0 := @h; have q1 := @decide_true; have q2 := @decide_false; have q3 := @ht; have q4 := @hki; refine b3y (bD d[k].fName (by omega)) (bL d[k].fQuery (by omega)) ?_
     cases hv : okQ d[k].fQuery
     ·rw [hv] at hr
      simp only [go_sem, hv]
      have q0 := @h; have q1 := @decide_true; have q2 := @decide_false; have q3 := @ht; have q4 := @hki; have q5 := @hv; refine b5f ?_
      have hf : dR d = false := by
       unfold dR
       rw [hq, hr]; simp
      exact aA ⟨⟨_, rfl, by simp only [go_sem, hf]⟩, trivial⟩
     ·rw [hv] at hr
      simp only [go_sem, hv]
      have q0 := @h; have q1 := @decide_true; have q2 := @decide_false; have q3 := @ht; have q4 := @hki; have q5 := @hv; refine a5X (bD d[k].fName (by omega)) (bL d[k].fQuery (by omega)) ?_
      refine aC (k + 1) ?_ ?_ ?_
      ·simp only [go_sem]; simp
      ·refine ⟨h, ?_⟩
       rw [hq, hr]; simp
      ·omega
  ·simp only [decide_eq_false_iff_not] at h
   have e : k = d.length := by omega
   have hq' : (List.range d.length).all (kT d) = true := by
    rw [hq, List.drop_of_length_le (by simp [e])]; rfl
   have hr : dR d = decide ((d.length : Int) ≤ 5) := by unfold dR; rw [hq']; simp only [Bool.true_and]
   have q0 := @decide_true; have q1 := @decide_false; refine fI ?_
   exact aA ⟨⟨_, rfl, by simp only [go_sem, hr, bT, decide_true, decide_false]⟩, trivial⟩
theorem nI (l : List TField) (s : ByteArray) (hl : l.length ≤ 4300000) : FnC Tryz.prog 292 [.o (.d (.sl (l.map bM))), os s] (oi (gX s l)) := by
 generalize hg : gX s l = res
 refine ent Tryz.func292 rfl Tryz.call292 rfl (fun C => ?_); simp only [go_sem, st0, Tryz.ntmps292]
 refine aD ?_
 refine aM (α := Nat) (fun k => [(5, oi k)]) (fun k => []) (fun k => k ≤ l.length ∧ gX s (l.drop k) = res) (fun k => l.length - k) 0 (fun _ => ?_) ?_ ?_ (fun k hk => ?_)
 ·simp only [go_sem]
 ·simp only [go_sem]; simp
 ·simp [hg]
 ·simp only [go_sem]
  obtain ⟨hk, hq⟩ := hk
  refine aD ?_
  refine cnd rfl (fun h1 => ?_) (fun h1 => ?_)
  ·simp only [decide_eq_true_eq, Int.ofNat_lt] at h1
   rw [xV s l k h1] at hq
   by_cases hv : l[k].fName = s
   ·rw [if_pos hv] at hq
    have q0 := @h1; have q1 := @hv; have q2 := @decide_true; refine lT ?_
    exact aA ⟨⟨_, rfl, by simp only [go_sem, hq]⟩, trivial⟩
   ·rw [if_neg hv] at hq
    have q0 := @h1; have q1 := @hv; have q2 := @decide_false; refine lT ?_
    refine aC (k + 1) ?_ ?_ ?_
    ·simp only [go_sem]; simp
    ·exact ⟨by omega, hq⟩
    ·omega
  ·simp only [decide_eq_false_iff_not] at h1
   have e : k = l.length := by omega
   subst e
   rw [List.drop_length] at hq
   have hn : res = 0 := hq.symm
   subst hn
   refine aD ?_
   exact aA ⟨⟨_, rfl, by simp only [go_sem]⟩, trivial⟩
theorem kG (s : List TField) (n : ByteArray) (v : TValue) (hl : s.length ≤ 4300000) (hs : v.fStr.size ≤ 4300000) : FnC Tryz.prog 253 [.o (.d (.sl (s.map bM))), os n, mI v] (ob (oV s n v)) := by
 have hr : oV s n v = (gK v && (!decide (v.fKind = 0) && decide (v.fKind = gX n s))) := rfl
 refine ent Tryz.func253 rfl Tryz.call253 rfl (fun C => ?_); simp only [go_sem, st0, Tryz.ntmps253]
 have q0 := @decide_true; have q1 := @decide_false; refine sI (bQ v hs) (nI s n hl) ?_
 cases hv : gK v
 ·rw [hv] at hr
  simp only [go_sem, hv]
  have q0 := @decide_true; have q1 := @decide_false; have q2 := @hv; refine lT ?_
  exact aA ⟨⟨_, rfl, by simp only [go_sem, hr, bT, decide_true, decide_false]⟩, trivial⟩
 ·rw [hv] at hr
  simp only [go_sem, hv]
  have q0 := @decide_true; have q1 := @decide_false; have q2 := @hv; refine a9i (bQ v hs) (nI s n hl) ?_
  by_cases hk : v.fKind = 0
  ·simp only [hk, decide_true] at hr
   simp only [go_sem, hk, decide_true]
   have q0 := @decide_true; have q1 := @decide_false; have q2 := @hv; have q3 := @hk; refine kC ?_
   exact aA ⟨⟨_, rfl, by simp only [go_sem, hr, bT, decide_true, decide_false]⟩, trivial⟩
  ·simp only [hk, decide_false] at hr
   simp only [go_sem, hk, decide_false]
   have q0 := @decide_true; have q1 := @decide_false; have q2 := @hv; have q3 := @hk; refine a1a (bQ v hs) (nI s n hl) ?_
   exact aA ⟨⟨_, rfl, by simp only [go_sem, hr, bT, decide_true, decide_false]⟩, trivial⟩
theorem iK (s : List TField) (hl : aN s ≤ 4300000) : FnC Tryz.prog 247 [.o (.d (.sl (s.map bM)))] (ob (okSchema s)) := by
 unfold aN at hl
 refine ent Tryz.func247 rfl Tryz.call247 rfl (fun C => ?_); simp only [go_sem, st0, Tryz.ntmps247]
 refine aD ?_
 refine aM (α := Nat) (fun k => [(3, oi k)]) (fun _ => []) (fun k => k ≤ s.length ∧ (List.range s.length).all (iU s) = ((List.range s.length).drop k).all (iU s)) (fun k => s.length - k) 0 (fun _ => ?_) ?_ ?_ (fun k hk => ?_)
 ·simp only [go_sem]
 ·simp only [go_sem]; simp
 ·simp
 ·obtain ⟨hk, hq⟩ := hk
  simp only [go_sem]
  refine aD ?_
  refine cnd rfl (fun h => ?_) (fun h => ?_)
  ·simp only [decide_eq_true_eq, Int.ofNat_lt] at h
   have h' : k < (List.range s.length).length := by simpa using h
   have hd := List.drop_eq_getElem_cons h'
   rw [hd, List.all_cons, List.getElem_range] at hq
   have hw := bB wField s h
   have hw1 : s[k].fName.size ≤ wField s[k] := by unfold wField; omega
   have hr : iU s k = (cK s[k].fName 1 && (inB s[k].fKind 1 2 && rP TField.fName s k)) := by unfold iU; rw [List.getElem?_eq_getElem h]
   have q0 := @h; have q1 := @decide_true; have q2 := @decide_false; refine a9i (aP s[k].fName (by omega)) (bS s[k].fKind 1 2) ?_
   cases ht : cK s[k].fName 1
   ·rw [ht] at hr
    simp only [go_sem, ht]
    have q0 := @h; have q1 := @decide_true; have q2 := @decide_false; have q3 := @ht; refine kC ?_
    have hf : okSchema s = false := by
     unfold okSchema
     rw [hq, hr]; simp
    exact aA ⟨⟨_, rfl, by simp only [go_sem, hf]⟩, trivial⟩
   ·rw [ht] at hr
    simp only [go_sem, ht]
    have q0 := @h; have q1 := @decide_true; have q2 := @decide_false; have q3 := @ht; refine a1a (aP s[k].fName (by omega)) (bS s[k].fKind 1 2) ?_
    cases hb : inB s[k].fKind 1 2
    ·rw [hb] at hr
     simp only [go_sem, hb]
     have q0 := @h; have q1 := @decide_true; have q2 := @decide_false; have q3 := @ht; have q4 := @hb; refine a1b ?_
     have hf : okSchema s = false := by
      unfold okSchema
      rw [hq, hr]; simp
     exact aA ⟨⟨_, rfl, by simp only [go_sem, hf]⟩, trivial⟩
    ·rw [hb] at hr
     simp only [go_sem, hb]
     have q0 := @h; have q1 := @decide_true; have q2 := @decide_false; have q3 := @ht; have q4 := @hb; refine b3y (aP s[k].fName (by omega)) (bS s[k].fKind 1 2) ?_
     by_cases hk0 : 0 < k
     ·have hki : (0 : Int) < (k : Int) := by omega
      have hkx : (k : Int) - 1 = ((k - 1 : Nat) : Int) := by omega
      have hkl : k - 1 < s.length := by omega
      rw [kS TField.fName s k hk0 h] at hr
      simp only [go_sem, hki, hkx, hkl, decide_true]
      have q0 := @h; have q1 := @decide_true; have q2 := @decide_false; have q3 := @ht; have q4 := @hb; have q5 := @hki; have q6 := @hkx; have q7 := @hkl; refine b5h (aP s[k].fName (by omega)) (bS s[k].fKind 1 2) ?_
      cases ho : gQ (TField.fName s[k - 1]) (TField.fName s[k])
      ·rw [ho] at hr
       simp only [go_sem, ho]
       have q0 := @h; have q1 := @decide_true; have q2 := @decide_false; have q3 := @ht; have q4 := @hb; have q5 := @hki; have q6 := @hkx; have q7 := @hkl; have q8 := @ho; refine a2f ?_
       have hf : okSchema s = false := by
        unfold okSchema
        rw [hq, hr]; simp
       exact aA ⟨⟨_, rfl, by simp only [go_sem, hf]⟩, trivial⟩
      ·rw [ho] at hr
       simp only [go_sem, ho]
       have q0 := @h; have q1 := @decide_true; have q2 := @decide_false; have q3 := @ht; have q4 := @hb; have q5 := @hki; have q6 := @hkx; have q7 := @hkl; have q8 := @ho; refine a5Z (aP s[k].fName (by omega)) (bS s[k].fKind 1 2) ?_
       refine aC (k + 1) ?_ ?_ ?_
       ·simp only [go_sem]; simp
       ·refine ⟨h, ?_⟩
        rw [hq, hr]; simp
       ·omega
     ·have hki : ¬ (0 : Int) < (k : Int) := by omega
      rw [rQ TField.fName s k hk0] at hr
      simp only [go_sem, hki, decide_false]
      have q0 := @h; have q1 := @decide_true; have q2 := @decide_false; have q3 := @ht; have q4 := @hb; have q5 := @hki; refine a5X (aP s[k].fName (by omega)) (bS s[k].fKind 1 2) ?_
      refine aC (k + 1) ?_ ?_ ?_
      ·simp only [go_sem]; simp
      ·refine ⟨h, ?_⟩
       rw [hq, hr]; simp
      ·omega
  ·simp only [decide_eq_false_iff_not] at h
   have e : k = s.length := by omega
   have hq' : (List.range s.length).all (iU s) = true := by
    rw [hq, List.drop_of_length_le (by simp [e])]; rfl
   have hr : okSchema s = decide ((s.length : Int) ≤ 5) := by unfold okSchema; rw [hq']; simp only [Bool.true_and]
   have q0 := @decide_true; have q1 := @decide_false; refine fI ?_
   exact aA ⟨⟨_, rfl, by simp only [go_sem, hr, bT, decide_true, decide_false]⟩, trivial⟩
theorem gF (s : List TField) (f : TFile) (hl : aN s ≤ 4300000) (hf : wFile f ≤ 4300000) : FnC Tryz.prog 207 [.o (.d (.sl (s.map bM))), bC f] (ob (eG s f)) := by
 unfold aN at hl
 unfold wFile aV at hf
 refine ent Tryz.func207 rfl Tryz.call207 rfl (fun C => ?_); simp only [go_sem, st0, Tryz.ntmps207]
 refine aD ?_
 refine aM (α := Nat) (fun k => [(5, oi k)]) (fun _ => []) (fun k => k ≤ f.fAttrs.length ∧ (List.range f.fAttrs.length).all (iC s f.fAttrs) = ((List.range f.fAttrs.length).drop k).all (iC s f.fAttrs)) (fun k => f.fAttrs.length - k) 0 (fun _ => ?_) ?_ ?_ (fun k hk => ?_)
 ·simp only [go_sem]
 ·simp only [go_sem]; simp
 ·simp
 ·obtain ⟨hk, hq⟩ := hk
  simp only [go_sem]
  refine aD ?_
  refine cnd rfl (fun h => ?_) (fun h => ?_)
  ·simp only [decide_eq_true_eq, Int.ofNat_lt] at h
   have h' : k < (List.range f.fAttrs.length).length := by simpa using h
   have hd := List.drop_eq_getElem_cons h'
   rw [hd, List.all_cons, List.getElem_range] at hq
   have hw := bB wAttr f.fAttrs h
   have hw1 : f.fAttrs[k].fName.size + f.fAttrs[k].fValue.fStr.size ≤ wAttr f.fAttrs[k] := by unfold wAttr fV; omega
   have hr : iC s f.fAttrs k = (oV s f.fAttrs[k].fName f.fAttrs[k].fValue && rP TAttr.fName f.fAttrs k) := by unfold iC; rw [List.getElem?_eq_getElem h]; exact Bool.and_comm _ _
   have q0 := @h; have q1 := @decide_true; have q2 := @decide_false; refine jP (kG s f.fAttrs[k].fName f.fAttrs[k].fValue (by omega) (by omega)) ?_
   cases hm : oV s f.fAttrs[k].fName f.fAttrs[k].fValue
   ·rw [hm] at hr
    simp only [go_sem, hm]
    have q0 := @h; have q1 := @decide_true; have q2 := @decide_false; have q3 := @hm; refine kC ?_
    have hf : eG s f = false := by
     unfold eG
     rw [hq, hr]; simp
    exact aA ⟨⟨_, rfl, by simp only [go_sem, hf]⟩, trivial⟩
   ·rw [hm] at hr
    simp only [go_sem, hm]
    have q0 := @h; have q1 := @decide_true; have q2 := @decide_false; have q3 := @hm; refine a2e (kG s f.fAttrs[k].fName f.fAttrs[k].fValue (by omega) (by omega)) ?_
    by_cases hk0 : 0 < k
    ·have hki : (0 : Int) < (k : Int) := by omega
     have hkx : (k : Int) - 1 = ((k - 1 : Nat) : Int) := by omega
     have hkl : k - 1 < f.fAttrs.length := by omega
     rw [kS TAttr.fName f.fAttrs k hk0 h] at hr
     simp only [go_sem, hki, hkx, hkl, decide_true]
     have q0 := @h; have q1 := @decide_true; have q2 := @decide_false; have q3 := @hm; have q4 := @hki; have q5 := @hkx; have q6 := @hkl; refine a5Y (kG s f.fAttrs[k].fName f.fAttrs[k].fValue (by omega) (by omega)) ?_
     cases ho : gQ (TAttr.fName f.fAttrs[k - 1]) (TAttr.fName f.fAttrs[k])
     ·rw [ho] at hr
      simp only [go_sem, ho]
      have q0 := @h; have q1 := @decide_true; have q2 := @decide_false; have q3 := @hm; have q4 := @hki; have q5 := @hkx; have q6 := @hkl; have q7 := @ho; refine a4o ?_
      have hf : eG s f = false := by
       unfold eG
       rw [hq, hr]; simp
      exact aA ⟨⟨_, rfl, by simp only [go_sem, hf]⟩, trivial⟩
     ·rw [ho] at hr
      simp only [go_sem, ho]
      have q0 := @h; have q1 := @decide_true; have q2 := @decide_false; have q3 := @hm; have q4 := @hki; have q5 := @hkx; have q6 := @hkl; have q7 := @ho; refine a1d (kG s f.fAttrs[k].fName f.fAttrs[k].fValue (by omega) (by omega)) ?_
      refine aC (k + 1) ?_ ?_ ?_
      ·simp only [go_sem]; simp
      ·refine ⟨h, ?_⟩
       rw [hq, hr]; simp
      ·omega
    ·have hki : ¬ (0 : Int) < (k : Int) := by omega
     rw [rQ TAttr.fName f.fAttrs k hk0] at hr
     simp only [go_sem, hki, decide_false]
     have q0 := @h; have q1 := @decide_true; have q2 := @decide_false; have q3 := @hm; have q4 := @hki; refine a3r (kG s f.fAttrs[k].fName f.fAttrs[k].fValue (by omega) (by omega)) ?_
     refine aC (k + 1) ?_ ?_ ?_
     ·simp only [go_sem]; simp
     ·refine ⟨h, ?_⟩
      rw [hq, hr]; simp
     ·omega
  ·simp only [decide_eq_false_iff_not] at h
   have e : k = f.fAttrs.length := by omega
   have hq' : (List.range f.fAttrs.length).all (iC s f.fAttrs) = true := by
    rw [hq, List.drop_of_length_le (by simp [e])]; rfl
   have hr : eG s f = (okSchema s && (inB f.fID 1 60 && (inB f.fOwner 0 2 && inB f.fLink 0 60))) := by unfold eG; rw [hq']; simp only [Bool.true_and]; cases okSchema s <;> simp
   have q0 := @decide_true; have q1 := @decide_false; refine b3x (bS f.fID 1 60) (bS f.fOwner 0 2) (bS f.fLink 0 60) (iK s (by unfold aN; omega)) ?_
   cases h0 : okSchema s
   ·rw [h0] at hr
    simp only [go_sem, h0]
    have q0 := @decide_true; have q1 := @decide_false; have q2 := @h0; refine lT ?_
    exact aA ⟨⟨_, rfl, by simp only [go_sem, hr, bT, decide_true, decide_false]⟩, trivial⟩
   ·rw [h0] at hr
    simp only [go_sem, h0]
    have q0 := @decide_true; have q1 := @decide_false; have q2 := @h0; refine b9n (bS f.fID 1 60) (bS f.fOwner 0 2) (bS f.fLink 0 60) (iK s (by unfold aN; omega)) ?_
    cases h1 : inB f.fID 1 60
    ·rw [h1] at hr
     simp only [go_sem, h1]
     have q0 := @decide_true; have q1 := @decide_false; have q2 := @h0; have q3 := @h1; refine kC ?_
     exact aA ⟨⟨_, rfl, by simp only [go_sem, hr, bT, decide_true, decide_false]⟩, trivial⟩
    ·rw [h1] at hr
     simp only [go_sem, h1]
     have q0 := @decide_true; have q1 := @decide_false; have q2 := @h0; have q3 := @h1; refine b8t (bS f.fID 1 60) (bS f.fOwner 0 2) (bS f.fLink 0 60) (iK s (by unfold aN; omega)) ?_
     cases h2 : inB f.fOwner 0 2
     ·rw [h2] at hr
      simp only [go_sem, h2]
      have q0 := @decide_true; have q1 := @decide_false; have q2 := @h0; have q3 := @h1; have q4 := @h2; refine a1b ?_
      exact aA ⟨⟨_, rfl, by simp only [go_sem, hr, bT, decide_true, decide_false]⟩, trivial⟩
     ·rw [h2] at hr
      simp only [go_sem, h2]
      have q0 := @decide_true; have q1 := @decide_false; have q2 := @h0; have q3 := @h1; have q4 := @h2; refine b9p (bS f.fID 1 60) (bS f.fOwner 0 2) (bS f.fLink 0 60) (iK s (by unfold aN; omega)) ?_
      exact aA ⟨⟨_, rfl, by simp only [go_sem, hr, bT, decide_true, decide_false]⟩, trivial⟩
theorem dP (x : TStore) (hx : aL x ≤ 4300000) : FnC Tryz.prog 201 [cB x] (ob (dC x)) := by
 unfold aL aN cZ at hx
 refine ent Tryz.func201 rfl Tryz.call201 rfl (fun C => ?_); simp only [go_sem, st0, Tryz.ntmps201]
 refine aD ?_
 refine aM (α := Nat) (fun k => [(3, oi k)]) (fun _ => []) (fun k => k ≤ x.fFiles.length ∧ (List.range x.fFiles.length).all (iD x) = ((List.range x.fFiles.length).drop k).all (iD x)) (fun k => x.fFiles.length - k) 0 (fun _ => ?_) ?_ ?_ (fun k hk => ?_)
 ·simp only [go_sem]
 ·simp only [go_sem]; simp
 ·simp
 ·obtain ⟨hk, hq⟩ := hk
  simp only [go_sem]
  refine aD ?_
  refine cnd rfl (fun h => ?_) (fun h => ?_)
  ·simp only [decide_eq_true_eq, Int.ofNat_lt] at h
   have h' : k < (List.range x.fFiles.length).length := by simpa using h
   have hd := List.drop_eq_getElem_cons h'
   rw [hd, List.all_cons, List.getElem_range] at hq
   have hw := bB wFile x.fFiles h
   have hr : iD x k = (eG x.fSchema x.fFiles[k] && (!decide (x.fNextID ≤ x.fFiles[k].fID) && a7M x.fFiles k)) := by unfold iD; rw [List.getElem?_eq_getElem h]
   have q0 := @h; have q1 := @decide_true; have q2 := @decide_false; refine jP (gF x.fSchema x.fFiles[k] (by unfold aN; omega) (by omega)) ?_
   cases hm : eG x.fSchema x.fFiles[k]
   ·rw [hm] at hr
    simp only [go_sem, hm]
    have q0 := @h; have q1 := @decide_true; have q2 := @decide_false; have q3 := @hm; refine kC ?_
    have hf : dC x = false := by
     unfold dC
     rw [hq, hr]; simp
    exact aA ⟨⟨_, rfl, by simp only [go_sem, hf]⟩, trivial⟩
   ·rw [hm] at hr
    simp only [go_sem, hm]
    have q0 := @h; have q1 := @decide_true; have q2 := @decide_false; have q3 := @hm; refine a2e (gF x.fSchema x.fFiles[k] (by unfold aN; omega) (by omega)) ?_
    by_cases hn : x.fNextID ≤ x.fFiles[k].fID
    ·simp only [hn, decide_true] at hr
     simp only [go_sem, hn, decide_true]
     have q0 := @h; have q1 := @decide_true; have q2 := @decide_false; have q3 := @hm; have q4 := @hn; refine a1b ?_
     have hf : dC x = false := by
      unfold dC
      rw [hq, hr]; simp
     exact aA ⟨⟨_, rfl, by simp only [go_sem, hf]⟩, trivial⟩
    ·simp only [hn, decide_false] at hr
     simp only [go_sem, hn, decide_false]
     have q0 := @h; have q1 := @decide_true; have q2 := @decide_false; have q3 := @hm; have q4 := @hn; refine a3r (gF x.fSchema x.fFiles[k] (by unfold aN; omega) (by omega)) ?_
     by_cases hk0 : 0 < k
     ·have hki : (0 : Int) < (k : Int) := by omega
      have hkx : (k : Int) - 1 = ((k - 1 : Nat) : Int) := by omega
      have hkl : k - 1 < x.fFiles.length := by omega
      rw [a1j x.fFiles k hk0 h] at hr
      simp only [go_sem, hki, hkx, hkl, decide_true]
      have q0 := @h; have q1 := @decide_true; have q2 := @decide_false; have q3 := @hm; have q4 := @hn; have q5 := @hki; have q6 := @hkx; have q7 := @hkl; refine a1d (gF x.fSchema x.fFiles[k] (by unfold aN; omega) (by omega)) ?_
      by_cases ho : x.fFiles[k].fID ≤ x.fFiles[k - 1].fID
      ·simp only [ho, decide_true] at hr
       simp only [go_sem, ho, decide_true]
       have q0 := @h; have q1 := @decide_true; have q2 := @decide_false; have q3 := @hm; have q4 := @hn; have q5 := @hki; have q6 := @hkx; have q7 := @hkl; have q8 := @ho; refine a2f ?_
       have hf : dC x = false := by
        unfold dC
        rw [hq, hr]; simp
       exact aA ⟨⟨_, rfl, by simp only [go_sem, hf]⟩, trivial⟩
      ·simp only [ho, decide_false] at hr
       simp only [go_sem, ho, decide_false]
       have q0 := @h; have q1 := @decide_true; have q2 := @decide_false; have q3 := @hm; have q4 := @hn; have q5 := @hki; have q6 := @hkx; have q7 := @hkl; have q8 := @ho; refine a9k (gF x.fSchema x.fFiles[k] (by unfold aN; omega) (by omega)) ?_
       refine aC (k + 1) ?_ ?_ ?_
       ·simp only [go_sem]; simp
       ·refine ⟨h, ?_⟩
        rw [hq, hr]; simp
       ·omega
     ·have hki : ¬ (0 : Int) < (k : Int) := by omega
      rw [b1h x.fFiles k hk0] at hr
      simp only [go_sem, hki, decide_false]
      have q0 := @h; have q1 := @decide_true; have q2 := @decide_false; have q3 := @hm; have q4 := @hn; have q5 := @hki; refine a1c (gF x.fSchema x.fFiles[k] (by unfold aN; omega) (by omega)) ?_
      refine aC (k + 1) ?_ ?_ ?_
      ·simp only [go_sem]; simp
      ·refine ⟨h, ?_⟩
       rw [hq, hr]; simp
      ·omega
  ·simp only [decide_eq_false_iff_not] at h
   have e : k = x.fFiles.length := by omega
   have hq' : (List.range x.fFiles.length).all (iD x) = true := by
    rw [hq, List.drop_of_length_le (by simp [e])]; rfl
   have hr : dC x = (okSchema x.fSchema && (decide ((x.fFiles.length : Int) ≤ 12) && inB x.fNextID 1 61)) := by unfold dC; rw [hq']; simp only [Bool.true_and]
   have q0 := @decide_true; have q1 := @decide_false; refine sI (iK x.fSchema (by unfold aN; omega)) (bS x.fNextID 1 61) ?_
   cases h0 : okSchema x.fSchema
   ·rw [h0] at hr
    simp only [go_sem, h0]
    have q0 := @decide_true; have q1 := @decide_false; have q2 := @h0; refine lT ?_
    exact aA ⟨⟨_, rfl, by simp only [go_sem, hr, bT, decide_true, decide_false]⟩, trivial⟩
   ·rw [h0] at hr
    simp only [go_sem, h0]
    have q0 := @decide_true; have q1 := @decide_false; have q2 := @h0; refine a9i (iK x.fSchema (by unfold aN; omega)) (bS x.fNextID 1 61) ?_
    by_cases h1 : (x.fFiles.length : Int) ≤ 12
    ·simp only [h1, decide_true] at hr
     simp only [go_sem, h1, decide_true]
     have q0 := @decide_true; have q1 := @decide_false; have q2 := @h0; have q3 := @h1; refine a1a (iK x.fSchema (by unfold aN; omega)) (bS x.fNextID 1 61) ?_
     exact aA ⟨⟨_, rfl, by simp only [go_sem, hr, bT, decide_true, decide_false]⟩, trivial⟩
    ·simp only [h1, decide_false] at hr
     simp only [go_sem, h1, decide_false]
     have q0 := @decide_true; have q1 := @decide_false; have q2 := @h0; have q3 := @h1; refine kC ?_
     exact aA ⟨⟨_, rfl, by simp only [go_sem, hr, bT, decide_true, decide_false]⟩, trivial⟩
theorem a1l (d : List TDir) (hd : aY d ≤ 4300000) : FnC Tryz.prog 220 [.o (.d (.sl (d.map aS)))] (ob (dR d)) := by
 unfold aY at hd
 refine ent Tryz.func220 rfl Tryz.call220 rfl (fun C => ?_); simp only [go_sem, st0, Tryz.ntmps220]
 refine aD ?_
 refine aM (α := Nat) (fun k => [(3, oi k)]) (fun _ => []) (fun k => k ≤ d.length ∧ (List.range d.length).all (kT d) = ((List.range d.length).drop k).all (kT d)) (fun k => d.length - k) 0 (fun _ => ?_) ?_ ?_ (fun k hk => ?_)
 ·simp only [go_sem]
 ·simp only [go_sem]; simp
 ·simp
 ·obtain ⟨hk, hq⟩ := hk
  simp only [go_sem]
  refine aD ?_
  refine cnd rfl (fun h => ?_) (fun h => ?_)
  ·simp only [decide_eq_true_eq, Int.ofNat_lt] at h
   have h' : k < (List.range d.length).length := by simpa using h
   have hd := List.drop_eq_getElem_cons h'
   rw [hd, List.all_cons, List.getElem_range] at hq
   have hw := bB wDir d h
   have hw1 : d[k].fName.size + bK d[k].fQuery ≤ wDir d[k] := by unfold wDir; omega
   have hr : kT d k = (cK d[k].fName 6 && (okQ d[k].fQuery && rP TDir.fName d k)) := by unfold kT; rw [List.getElem?_eq_getElem h, Bool.and_comm (okQ d[k].fQuery)]
   have q0 := @h; have q1 := @decide_true; have q2 := @decide_false; refine a9i (bR d[k].fName (by omega)) (bP d[k].fQuery (by omega)) ?_
   cases ht : cK d[k].fName 6
   ·rw [ht] at hr
    simp only [go_sem, ht]
    have q0 := @h; have q1 := @decide_true; have q2 := @decide_false; have q3 := @ht; refine kC ?_
    have hf : dR d = false := by
     unfold dR
     rw [hq, hr]; simp
    exact aA ⟨⟨_, rfl, by simp only [go_sem, hf]⟩, trivial⟩
   ·rw [ht] at hr
    simp only [go_sem, ht]
    have q0 := @h; have q1 := @decide_true; have q2 := @decide_false; have q3 := @ht; refine a1a (bR d[k].fName (by omega)) (bP d[k].fQuery (by omega)) ?_
    cases hv : okQ d[k].fQuery
    ·rw [hv] at hr
     simp only [go_sem, hv]
     have q0 := @h; have q1 := @decide_true; have q2 := @decide_false; have q3 := @ht; have q4 := @hv; refine a1b ?_
     have hf : dR d = false := by
      unfold dR
      rw [hq, hr]; simp
     exact aA ⟨⟨_, rfl, by simp only [go_sem, hf]⟩, trivial⟩
    ·rw [hv] at hr
     simp only [go_sem, hv]
     have q0 := @h; have q1 := @decide_true; have q2 := @decide_false; have q3 := @ht; have q4 := @hv; refine b3y (bR d[k].fName (by omega)) (bP d[k].fQuery (by omega)) ?_
     by_cases hk0 : 0 < k
     ·have hki : (0 : Int) < (k : Int) := by omega
      have hkx : (k : Int) - 1 = ((k - 1 : Nat) : Int) := by omega
      have hkl : k - 1 < d.length := by omega
      rw [kS TDir.fName d k hk0 h] at hr
      simp only [go_sem, hki, hkx, hkl, decide_true]
      have q0 := @h; have q1 := @decide_true; have q2 := @decide_false; have q3 := @ht; have q4 := @hv; have q5 := @hki; have q6 := @hkx; have q7 := @hkl; refine b5h (bR d[k].fName (by omega)) (bP d[k].fQuery (by omega)) ?_
      cases ho : gQ (TDir.fName d[k - 1]) (TDir.fName d[k])
      ·rw [ho] at hr
       simp only [go_sem, ho]
       have q0 := @h; have q1 := @decide_true; have q2 := @decide_false; have q3 := @ht; have q4 := @hv; have q5 := @hki; have q6 := @hkx; have q7 := @hkl; have q8 := @ho; refine a2f ?_
       have hf : dR d = false := by
        unfold dR
        rw [hq, hr]; simp
       exact aA ⟨⟨_, rfl, by simp only [go_sem, hf]⟩, trivial⟩
      ·rw [ho] at hr
       simp only [go_sem, ho]
       have q0 := @h; have q1 := @decide_true; have q2 := @decide_false; have q3 := @ht; have q4 := @hv; have q5 := @hki; have q6 := @hkx; have q7 := @hkl; have q8 := @ho; refine a5Z (bR d[k].fName (by omega)) (bP d[k].fQuery (by omega)) ?_
       refine aC (k + 1) ?_ ?_ ?_
       ·simp only [go_sem]; simp
       ·refine ⟨h, ?_⟩
        rw [hq, hr]; simp
       ·omega
     ·have hki : ¬ (0 : Int) < (k : Int) := by omega
      rw [rQ TDir.fName d k hk0] at hr
      simp only [go_sem, hki, decide_false]
      have q0 := @h; have q1 := @decide_true; have q2 := @decide_false; have q3 := @ht; have q4 := @hv; have q5 := @hki; refine a5X (bR d[k].fName (by omega)) (bP d[k].fQuery (by omega)) ?_
      refine aC (k + 1) ?_ ?_ ?_
      ·simp only [go_sem]; simp
      ·refine ⟨h, ?_⟩
       rw [hq, hr]; simp
      ·omega
  ·simp only [decide_eq_false_iff_not] at h
   have e : k = d.length := by omega
   have hq' : (List.range d.length).all (kT d) = true := by
    rw [hq, List.drop_of_length_le (by simp [e])]; rfl
   have hr : dR d = decide ((d.length : Int) ≤ 5) := by unfold dR; rw [hq']; simp only [Bool.true_and]
   have q0 := @decide_true; have q1 := @decide_false; refine fI ?_
   exact aA ⟨⟨_, rfl, by simp only [go_sem, hr, bT, decide_true, decide_false]⟩, trivial⟩
end Go.Proofs.YteaaopodnbjpoaaGreat
end
section
namespace Go.Proofs.YteaaopodnbjpoaaGreat
open Go Go.Sx Go.RowKit Go.Proofs
theorem rO {x : TStore} : dC x = true ↔ (∀ k, k < x.fFiles.length → iD x k = true) ∧ okSchema x.fSchema = true ∧ x.fFiles.length ≤ 12 ∧ 1 ≤ x.fNextID ∧ x.fNextID ≤ 61 := by
 unfold dC inB
 simp only [Bool.and_eq_true, List.all_eq_true, List.mem_range, decide_eq_true_eq]
 constructor
 ·rintro ⟨h1, h2, h3, h4, h5⟩; exact ⟨h1, h2, by omega, h4, h5⟩
 ·rintro ⟨h1, h2, h3, h4, h5⟩; exact ⟨h1, h2, by omega, h4, h5⟩
theorem pI {x : TStore} {k : Nat} (h : k < x.fFiles.length) : iD x k = true ↔ eG x.fSchema x.fFiles[k] = true ∧ x.fFiles[k].fID < x.fNextID ∧ a7M x.fFiles k = true := by
 unfold iD
 rw [List.getElem?_eq_getElem h]
 simp only [Bool.and_eq_true, Bool.not_eq_true', decide_eq_false_iff_not, Int.not_le]
def mkF (s : TStore) (f : TFile) : TFile := { f with fID := s.fNextID }
def b7I (s : TStore) (f : TFile) : Bool := dC s && (decide (s.fFiles.length < 12) && eG s.fSchema (mkF s f))
def c0J (s : TStore) (f : TFile) : TStore := if b7I s f then ⟨s.fSchema, s.fFiles ++ [mkF s f], s.fNextID + 1⟩ else s
def c0K (s : TStore) (f : TFile) : Int := if b7I s f then s.fNextID else 0
end Go.Proofs.YteaaopodnbjpoaaGreat
end
