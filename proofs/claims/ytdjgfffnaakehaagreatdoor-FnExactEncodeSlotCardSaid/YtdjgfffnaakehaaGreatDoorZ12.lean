/- Joined texts. -/
import Derived.Test.YtdjgfffnaakehaaGreatDoorZ10
import Derived.Test.YtdjgfffnaakehaaGreatDoorZ01
import Derived.Test.YtdjgfffnaakehaaGreatDoorZ08
set_option linter.all false
section
set_option maxRecDepth 100000
set_option maxHeartbeats 4000000
namespace Go.Proofs.YtdjgfffnaakehaaGreatDoor
open Go Go.Sx Go.RowKit Go.Proofs
def mY {α : Type} (g : α → ByteArray) (l : List α) (k : Nat) : Bool := decide (k = 0) || (match l[k - 1]?, l[k]? with
 | some p, some x => iW (g p) (g x)
 | _, _ => true)
theorem nV {α : Type} (g : α → ByteArray) (l : List α) (k : Nat) (h : ¬ 0 < k) : mY g l k = true := by
 have e : k = 0 := by omega
 simp [mY, e]
theorem jH {α : Type} (g : α → ByteArray) (l : List α) (k : Nat) (h : 0 < k) (hl : k < l.length) : mY g l k = iW (g (l[k - 1]'(by omega))) (g l[k]) := by
 have h1 : k - 1 < l.length := by omega
 have e : ¬ k = 0 := by omega
 simp [mY, e, List.getElem?_eq_getElem h1, List.getElem?_eq_getElem hl]
def a4q (l : List TFile) (k : Nat) : Bool := decide (k = 0) || (match l[k - 1]?, l[k]? with
 | some p, some x => !decide (x.fID ≤ p.fID)
 | _, _ => true)
theorem a7w (l : List TFile) (k : Nat) (h : ¬ 0 < k) : a4q l k = true := by
 have e : k = 0 := by omega
 simp [a4q, e]
theorem a3g (l : List TFile) (k : Nat) (h : 0 < k) (hl : k < l.length) : a4q l k = !decide (l[k].fID ≤ (l[k - 1]'(by omega)).fID) := by
 have h1 : k - 1 < l.length := by omega
 have e : ¬ k = 0 := by omega
 simp only [a4q, e, decide_false, Bool.false_or, List.getElem?_eq_getElem h1, List.getElem?_eq_getElem hl]
def eF (s : ByteArray) : List TField → Int
 | [] => 0
 | f :: l => if f.fName = s then f.fKind else eF s l
theorem pO (s : ByteArray) (l : List TField) (k : Nat) (h : k < l.length) : eF s (l.drop k) = if l[k].fName = s then l[k].fKind else eF s (l.drop (k + 1)) := by
 rw [List.drop_eq_getElem_cons h]; rfl
def fC (s : List TField) (k : Nat) : Bool := match s[k]? with
 | none => true
 | some f => aY f.fName 1 && (inB f.fKind 1 2 && mY TField.fName s k)
def okSchema (s : List TField) : Bool := (List.range s.length).all (fC s) && decide ((s.length : Int) ≤ 5)
def lW (s : List TField) (n : ByteArray) (v : TValue) : Bool := dN v && (!decide (v.fKind = 0) && decide (v.fKind = eF n s))
def gK (s : List TField) (l : List TAttr) (k : Nat) : Bool := match l[k]? with
 | none => true
 | some a => mY TAttr.fName l k && lW s a.fName a.fValue
def eQ (s : List TField) (f : TFile) : Bool := (List.range f.fAttrs.length).all (gK s f.fAttrs) && (inB f.fID 1 60 && (inB f.fOwner 0 2 && (inB f.fLink 0 60 && okSchema s)))
def gL (x : TStore) (k : Nat) : Bool := match x.fFiles[k]? with
 | none => true
 | some f => eQ x.fSchema f && (!decide (x.fNextID ≤ f.fID) && a4q x.fFiles k)
def dI (x : TStore) : Bool := (List.range x.fFiles.length).all (gL x) && (okSchema x.fSchema && (decide ((x.fFiles.length : Int) ≤ 12) && inB x.fNextID 1 61))
def iD (d : List TDir) (k : Nat) : Bool := match d[k]? with
 | none => true
 | some x => aY x.fName 6 && (mY TDir.fName d k && okQ x.fQuery)
def dB (d : List TDir) : Bool := (List.range d.length).all (iD d) && decide ((d.length : Int) ≤ 5)
theorem jI (l : List TField) (s : ByteArray) (hl : l.length ≤ 4300000) : FnC Tryz.prog 124 [.o (.d (.sl (l.map aZ))), os s] (oi (eF s l)) := by
 generalize hg : eF s l = res
 refine ent Tryz.func124 rfl Tryz.call124 rfl (fun C => ?_); simp only [go_sem, st0, Tryz.ntmps124]
 refine aK ?_
 refine bC (α := Nat) (fun k => [(9, oi k)]) (fun k => []) (fun k => k ≤ l.length ∧ eF s (l.drop k) = res) (fun k => l.length - k) 0 (fun _ => ?_) ?_ ?_ (fun k hk => ?_)
 ·simp only [go_sem]
 ·simp only [go_sem]; simp
 ·simp [hg]
 ·simp only [go_sem]
  obtain ⟨hk, hq⟩ := hk
  refine aK ?_
  refine cnd rfl (fun h1 => ?_) (fun h1 => ?_)
  ·simp only [decide_eq_true_eq, Int.ofNat_lt] at h1
   rw [pO s l k h1] at hq
   by_cases hv : l[k].fName = s
   ·rw [if_pos hv] at hq
    have q0 := @h1; have q1 := @hv; have q2 := @decide_true; refine kZ ?_
    exact aA ⟨⟨_, rfl, by simp only [go_sem, hq]⟩, trivial⟩
   ·rw [if_neg hv] at hq
    have q0 := @h1; have q1 := @hv; have q2 := @decide_false; refine kZ ?_
    refine aG (k + 1) ?_ ?_ ?_
    ·simp only [go_sem]; simp
    ·exact ⟨by omega, hq⟩
    ·omega
  ·simp only [decide_eq_false_iff_not] at h1
   have e : k = l.length := by omega
   subst e
   rw [List.drop_length] at hq
   have hn : res = 0 := hq.symm
   subst hn
   refine aK ?_
   exact aA ⟨⟨_, rfl, by simp only [go_sem]⟩, trivial⟩
theorem fD (s : List TField) (n : ByteArray) (v : TValue) (hl : s.length ≤ 4300000) (hs : v.fStr.size ≤ 4300000) : FnC Tryz.prog 103 [.o (.d (.sl (s.map aZ))), os n, jG v] (ob (lW s n v)) := by
 have hr : lW s n v = (dN v && (!decide (v.fKind = 0) && decide (v.fKind = eF n s))) := rfl
 refine ent Tryz.func103 rfl Tryz.call103 rfl (fun C => ?_); simp only [go_sem, st0, Tryz.ntmps103]
 have q0 := @decide_true; have q1 := @decide_false; refine wR (aC v hs) (jI s n hl) ?_
 cases hv : dN v
 ·rw [hv] at hr
  simp only [go_sem, hv]
  have q0 := @decide_true; have q1 := @decide_false; have q2 := @hv; refine kZ ?_
  exact aA ⟨⟨_, rfl, by simp only [go_sem, hr, bT, decide_true, decide_false]⟩, trivial⟩
 ·rw [hv] at hr
  simp only [go_sem, hv]
  have q0 := @decide_true; have q1 := @decide_false; have q2 := @hv; refine a3U (aC v hs) (jI s n hl) ?_
  by_cases hk : v.fKind = 0
  ·simp only [hk, decide_true] at hr
   simp only [go_sem, hk, decide_true]
   have q0 := @decide_true; have q1 := @decide_false; have q2 := @hv; have q3 := @hk; refine jE ?_
   exact aA ⟨⟨_, rfl, by simp only [go_sem, hr, bT, decide_true, decide_false]⟩, trivial⟩
  ·simp only [hk, decide_false] at hr
   simp only [go_sem, hk, decide_false]
   have q0 := @decide_true; have q1 := @decide_false; have q2 := @hv; have q3 := @hk; refine rY (aC v hs) (jI s n hl) ?_
   exact aA ⟨⟨_, rfl, by simp only [go_sem, hr, bT, decide_true, decide_false]⟩, trivial⟩
theorem eT (s : List TField) (hl : aM s ≤ 4300000) : FnC Tryz.prog 76 [.o (.d (.sl (s.map aZ)))] (ob (okSchema s)) := by
 unfold aM at hl
 refine ent Tryz.func76 rfl Tryz.call76 rfl (fun C => ?_); simp only [go_sem, st0, Tryz.ntmps76]
 refine aK ?_
 refine bC (α := Nat) (fun k => [(7, oi k)]) (fun _ => []) (fun k => k ≤ s.length ∧ (List.range s.length).all (fC s) = ((List.range s.length).drop k).all (fC s)) (fun k => s.length - k) 0 (fun _ => ?_) ?_ ?_ (fun k hk => ?_)
 ·simp only [go_sem]
 ·simp only [go_sem]; simp
 ·simp
 ·obtain ⟨hk, hq⟩ := hk
  simp only [go_sem]
  refine aK ?_
  refine cnd rfl (fun h => ?_) (fun h => ?_)
  ·simp only [decide_eq_true_eq, Int.ofNat_lt] at h
   have h' : k < (List.range s.length).length := by simpa using h
   have hd := List.drop_eq_getElem_cons h'
   rw [hd, List.all_cons, List.getElem_range] at hq
   have hw := bL wField s h
   have hw1 : s[k].fName.size ≤ wField s[k] := by unfold wField; omega
   have hr : fC s k = (aY s[k].fName 1 && (inB s[k].fKind 1 2 && mY TField.fName s k)) := by unfold fC; rw [List.getElem?_eq_getElem h]
   have q0 := @h; have q1 := @decide_true; have q2 := @decide_false; refine fG (aB s[k].fName) ?_
   cases ht : aY s[k].fName 1
   ·rw [ht] at hr
    simp only [go_sem, ht]
    have q0 := @h; have q1 := @decide_true; have q2 := @decide_false; have q3 := @ht; refine jE ?_
    have hf : okSchema s = false := by
     unfold okSchema
     rw [hq, hr]; simp
    exact aA ⟨⟨_, rfl, by simp only [go_sem, hf]⟩, trivial⟩
   ·rw [ht] at hr
    simp only [go_sem, ht]
    have q0 := @h; have q1 := @decide_true; have q2 := @decide_false; have q3 := @ht; refine tX (aB s[k].fName) ?_
    cases hb : inB s[k].fKind 1 2
    ·rw [hb] at hr
     have hb2 : ¬ (1 ≤ s[k].fKind ∧ s[k].fKind ≤ 2) := by intro hx; simp [inB, hx.1, hx.2] at hb
     have k1 : ¬ s[k].fKind = 1 := by omega
     have k2 : ¬ s[k].fKind = 2 := by omega
     simp only [go_sem, k1, k2, decide_false]
     have q0 := @h; have q1 := @decide_true; have q2 := @decide_false; have q3 := @ht; have q4 := @k1; have q5 := @k2; refine a9g ?_
     have hf : okSchema s = false := by
      unfold okSchema
      rw [hq, hr]; simp
     exact aA ⟨⟨_, rfl, by simp only [go_sem, hf]⟩, trivial⟩
    ·rw [hb] at hr
     have hb2 : 1 ≤ s[k].fKind ∧ s[k].fKind ≤ 2 := by simpa [inB] using hb
     by_cases k1 : s[k].fKind = 1
     ·simp only [go_sem, k1, decide_true]
      have q0 := @h; have q1 := @decide_true; have q2 := @decide_false; have q3 := @ht; have q4 := @k1; refine qP (aB s[k].fName) ?_
      by_cases hk0 : 0 < k
      ·have hki : (0 : Int) < (k : Int) := by omega
       have hkx : (k : Int) - 1 = ((k - 1 : Nat) : Int) := by omega
       have hkl : k - 1 < s.length := by omega
       rw [jH TField.fName s k hk0 h] at hr
       simp only [go_sem, hki, hkx, hkl, decide_true]
       have q0 := @h; have q1 := @decide_true; have q2 := @decide_false; have q3 := @ht; have q4 := @k1; have q5 := @hki; have q6 := @hkx; have q7 := @hkl; refine a3V (aB s[k].fName) ?_
       cases ho : iW (TField.fName s[k - 1]) (TField.fName s[k])
       ·rw [ho] at hr
        simp only [go_sem, ho]
        have q0 := @h; have q1 := @decide_true; have q2 := @decide_false; have q3 := @ht; have q4 := @k1; have q5 := @hki; have q6 := @hkx; have q7 := @hkl; have q8 := @ho; refine uZ ?_
        have hf : okSchema s = false := by
         unfold okSchema
         rw [hq, hr]; simp
        exact aA ⟨⟨_, rfl, by simp only [go_sem, hf]⟩, trivial⟩
       ·rw [ho] at hr
        simp only [go_sem, ho]
        have q0 := @h; have q1 := @decide_true; have q2 := @decide_false; have q3 := @ht; have q4 := @k1; have q5 := @hki; have q6 := @hkx; have q7 := @hkl; have q8 := @ho; refine a5H (aB s[k].fName) ?_
        refine aG (k + 1) ?_ ?_ ?_
        ·simp only [go_sem]; simp
        ·refine ⟨h, ?_⟩
         rw [hq, hr]; simp
        ·omega
      ·have hki : ¬ (0 : Int) < (k : Int) := by omega
       rw [nV TField.fName s k hk0] at hr
       simp only [go_sem, hki, decide_false]
       have q0 := @h; have q1 := @decide_true; have q2 := @decide_false; have q3 := @ht; have q4 := @k1; have q5 := @hki; refine qQ (aB s[k].fName) ?_
       refine aG (k + 1) ?_ ?_ ?_
       ·simp only [go_sem]; simp
       ·refine ⟨h, ?_⟩
        rw [hq, hr]; simp
       ·omega
     ·have k2 : s[k].fKind = 2 := by omega
      simp only [go_sem, k1, k2, decide_true, decide_false]
      have q0 := @h; have q1 := @decide_true; have q2 := @decide_false; have q3 := @ht; have q4 := @k1; have q5 := @k2; refine qQ (aB s[k].fName) ?_
      by_cases hk0 : 0 < k
      ·have hki : (0 : Int) < (k : Int) := by omega
       have hkx : (k : Int) - 1 = ((k - 1 : Nat) : Int) := by omega
       have hkl : k - 1 < s.length := by omega
       rw [jH TField.fName s k hk0 h] at hr
       simp only [go_sem, hki, hkx, hkl, decide_true]
       have q0 := @h; have q1 := @decide_true; have q2 := @decide_false; have q3 := @ht; have q4 := @k1; have q5 := @k2; have q6 := @hki; have q7 := @hkx; have q8 := @hkl; refine a5H (aB s[k].fName) ?_
       cases ho : iW (TField.fName s[k - 1]) (TField.fName s[k])
       ·rw [ho] at hr
        simp only [go_sem, ho]
        have q0 := @h; have q1 := @decide_true; have q2 := @decide_false; have q3 := @ht; have q4 := @k1; have q5 := @k2; have q6 := @hki; have q7 := @hkx; have q8 := @hkl; have q9 := @ho; refine mP ?_
        have hf : okSchema s = false := by
         unfold okSchema
         rw [hq, hr]; simp
        exact aA ⟨⟨_, rfl, by simp only [go_sem, hf]⟩, trivial⟩
       ·rw [ho] at hr
        simp only [go_sem, ho]
        have q0 := @h; have q1 := @decide_true; have q2 := @decide_false; have q3 := @ht; have q4 := @k1; have q5 := @k2; have q6 := @hki; have q7 := @hkx; have q8 := @hkl; have q9 := @ho; refine a4K (aB s[k].fName) ?_
        refine aG (k + 1) ?_ ?_ ?_
        ·simp only [go_sem]; simp
        ·refine ⟨h, ?_⟩
         rw [hq, hr]; simp
        ·omega
      ·have hki : ¬ (0 : Int) < (k : Int) := by omega
       rw [nV TField.fName s k hk0] at hr
       simp only [go_sem, hki, decide_false]
       have q0 := @h; have q1 := @decide_true; have q2 := @decide_false; have q3 := @ht; have q4 := @k1; have q5 := @k2; have q6 := @hki; refine a5G (aB s[k].fName) ?_
       refine aG (k + 1) ?_ ?_ ?_
       ·simp only [go_sem]; simp
       ·refine ⟨h, ?_⟩
        rw [hq, hr]; simp
       ·omega
  ·simp only [decide_eq_false_iff_not] at h
   have e : k = s.length := by omega
   have hq' : (List.range s.length).all (fC s) = true := by
    rw [hq, List.drop_of_length_le (by simp [e])]; rfl
   have hr : okSchema s = decide ((s.length : Int) ≤ 5) := by unfold okSchema; rw [hq']; simp only [Bool.true_and]
   have q0 := @decide_true; have q1 := @decide_false; refine tV ?_
   exact aA ⟨⟨_, rfl, by simp only [go_sem, hr, bT, decide_true, decide_false]⟩, trivial⟩
theorem qI (n : Int) : FnC Tryz.prog 104 [oi n] (ob (inB n 0 2)) := by
 refine ent Tryz.func104 rfl Tryz.call104 rfl (fun C => ?_); simp only [go_sem, st0, Tryz.ntmps104]
 refine jA (aF n 0 2) ?_
 exact aA ⟨⟨_, rfl, by simp only [go_sem]⟩, trivial⟩
theorem iQ (s : List TField) (f : TFile) (hl : aM s ≤ 4300000) (hf : wFile f ≤ 4300000) : FnC Tryz.prog 75 [.o (.d (.sl (s.map aZ))), qX f] (ob (eQ s f)) := by
 unfold aM at hl
 unfold wFile dV at hf
 refine ent Tryz.func75 rfl Tryz.call75 rfl (fun C => ?_); simp only [go_sem, st0, Tryz.ntmps75]
 refine aK ?_
 refine bC (α := Nat) (fun k => [(10, oi k)]) (fun _ => []) (fun k => k ≤ f.fAttrs.length ∧ (List.range f.fAttrs.length).all (gK s f.fAttrs) = ((List.range f.fAttrs.length).drop k).all (gK s f.fAttrs)) (fun k => f.fAttrs.length - k) 0 (fun _ => ?_) ?_ ?_ (fun k hk => ?_)
 ·simp only [go_sem]
 ·simp only [go_sem]; simp
 ·simp
 ·obtain ⟨hk, hq⟩ := hk
  simp only [go_sem]
  refine aK ?_
  refine cnd rfl (fun h => ?_) (fun h => ?_)
  ·simp only [decide_eq_true_eq, Int.ofNat_lt] at h
   have h' : k < (List.range f.fAttrs.length).length := by simpa using h
   have hd := List.drop_eq_getElem_cons h'
   rw [hd, List.all_cons, List.getElem_range] at hq
   have hw := bL wAttr f.fAttrs h
   have hw1 : f.fAttrs[k].fName.size + f.fAttrs[k].fValue.fStr.size ≤ wAttr f.fAttrs[k] := by unfold wAttr eB; omega
   have hr : gK s f.fAttrs k = (mY TAttr.fName f.fAttrs k && lW s f.fAttrs[k].fName f.fAttrs[k].fValue) := by unfold gK; rw [List.getElem?_eq_getElem h]
   have q0 := @h; have q1 := @decide_true; have q2 := @decide_false; refine fG (fD s f.fAttrs[k].fName f.fAttrs[k].fValue (by omega) (by omega)) ?_
   by_cases hk0 : 0 < k
   ·have hki : (0 : Int) < (k : Int) := by omega
    have hkx : (k : Int) - 1 = ((k - 1 : Nat) : Int) := by omega
    have hkl : k - 1 < f.fAttrs.length := by omega
    rw [jH TAttr.fName f.fAttrs k hk0 h] at hr
    simp only [go_sem, hki, hkx, hkl, decide_true]
    have q0 := @h; have q1 := @decide_true; have q2 := @decide_false; have q3 := @hki; have q4 := @hkx; have q5 := @hkl; refine qQ (fD s f.fAttrs[k].fName f.fAttrs[k].fValue (by omega) (by omega)) ?_
    cases ho : iW (TAttr.fName f.fAttrs[k - 1]) (TAttr.fName f.fAttrs[k])
    ·rw [ho] at hr
     simp only [go_sem, ho]
     have q0 := @h; have q1 := @decide_true; have q2 := @decide_false; have q3 := @hki; have q4 := @hkx; have q5 := @hkl; have q6 := @ho; refine a6S ?_
     have hf : eQ s f = false := by
      unfold eQ
      rw [hq, hr]; simp
     exact aA ⟨⟨_, rfl, by simp only [go_sem, hf]⟩, trivial⟩
    ·rw [ho] at hr
     simp only [go_sem, ho]
     have q0 := @h; have q1 := @decide_true; have q2 := @decide_false; have q3 := @hki; have q4 := @hkx; have q5 := @hkl; have q6 := @ho; refine a5G (fD s f.fAttrs[k].fName f.fAttrs[k].fValue (by omega) (by omega)) ?_
     cases hm : lW s f.fAttrs[k].fName f.fAttrs[k].fValue
     ·rw [hm] at hr
      simp only [go_sem, hm]
      have q0 := @h; have q1 := @decide_true; have q2 := @decide_false; have q3 := @hki; have q4 := @hkx; have q5 := @hkl; have q6 := @ho; have q7 := @hm; refine yS ?_
      have hf : eQ s f = false := by
       unfold eQ
       rw [hq, hr]; simp
      exact aA ⟨⟨_, rfl, by simp only [go_sem, hf]⟩, trivial⟩
     ·rw [hm] at hr
      simp only [go_sem, hm]
      have q0 := @h; have q1 := @decide_true; have q2 := @decide_false; have q3 := @hki; have q4 := @hkx; have q5 := @hkl; have q6 := @ho; have q7 := @hm; refine a3V (fD s f.fAttrs[k].fName f.fAttrs[k].fValue (by omega) (by omega)) ?_
      refine aG (k + 1) ?_ ?_ ?_
      ·simp only [go_sem]; simp
      ·refine ⟨h, ?_⟩
       rw [hq, hr]; simp
      ·omega
   ·have hki : ¬ (0 : Int) < (k : Int) := by omega
    rw [nV TAttr.fName f.fAttrs k hk0] at hr
    simp only [go_sem, hki, decide_false]
    have q0 := @h; have q1 := @decide_true; have q2 := @decide_false; have q3 := @hki; refine tX (fD s f.fAttrs[k].fName f.fAttrs[k].fValue (by omega) (by omega)) ?_
    cases hm : lW s f.fAttrs[k].fName f.fAttrs[k].fValue
    ·rw [hm] at hr
     simp only [go_sem, hm]
     have q0 := @h; have q1 := @decide_true; have q2 := @decide_false; have q3 := @hki; have q4 := @hm; refine wS ?_
     have hf : eQ s f = false := by
      unfold eQ
      rw [hq, hr]; simp
     exact aA ⟨⟨_, rfl, by simp only [go_sem, hf]⟩, trivial⟩
    ·rw [hm] at hr
     simp only [go_sem, hm]
     have q0 := @h; have q1 := @decide_true; have q2 := @decide_false; have q3 := @hki; have q4 := @hm; refine qP (fD s f.fAttrs[k].fName f.fAttrs[k].fValue (by omega) (by omega)) ?_
     refine aG (k + 1) ?_ ?_ ?_
     ·simp only [go_sem]; simp
     ·refine ⟨h, ?_⟩
      rw [hq, hr]; simp
     ·omega
  ·simp only [decide_eq_false_iff_not] at h
   have e : k = f.fAttrs.length := by omega
   have hq' : (List.range f.fAttrs.length).all (gK s f.fAttrs) = true := by
    rw [hq, List.drop_of_length_le (by simp [e])]; rfl
   have hr : eQ s f = (inB f.fID 1 60 && (inB f.fOwner 0 2 && (inB f.fLink 0 60 && okSchema s))) := by unfold eQ; rw [hq']; simp only [Bool.true_and]
   have q0 := @decide_true; have q1 := @decide_false; refine a9R (aF f.fID 1 60) (qI f.fOwner) (aF f.fLink 0 60) (eT s (by unfold aM; omega)) ?_
   cases h1 : inB f.fID 1 60
   ·rw [h1] at hr
    simp only [go_sem, h1]
    have q0 := @decide_true; have q1 := @decide_false; have q2 := @h1; refine kZ ?_
    exact aA ⟨⟨_, rfl, by simp only [go_sem, hr, bT, decide_true, decide_false]⟩, trivial⟩
   ·rw [h1] at hr
    simp only [go_sem, h1]
    have q0 := @decide_true; have q1 := @decide_false; have q2 := @h1; refine a9S (aF f.fID 1 60) (qI f.fOwner) (aF f.fLink 0 60) (eT s (by unfold aM; omega)) ?_
    cases h2 : inB f.fOwner 0 2
    ·rw [h2] at hr
     simp only [go_sem, h2]
     have q0 := @decide_true; have q1 := @decide_false; have q2 := @h1; have q3 := @h2; refine jE ?_
     exact aA ⟨⟨_, rfl, by simp only [go_sem, hr, bT, decide_true, decide_false]⟩, trivial⟩
    ·rw [h2] at hr
     simp only [go_sem, h2]
     have q0 := @decide_true; have q1 := @decide_false; have q2 := @h1; have q3 := @h2; refine a8l (aF f.fID 1 60) (qI f.fOwner) (aF f.fLink 0 60) (eT s (by unfold aM; omega)) ?_
     cases h3 : inB f.fLink 0 60
     ·rw [h3] at hr
      simp only [go_sem, h3]
      have q0 := @decide_true; have q1 := @decide_false; have q2 := @h1; have q3 := @h2; have q4 := @h3; refine wS ?_
      exact aA ⟨⟨_, rfl, by simp only [go_sem, hr, bT, decide_true, decide_false]⟩, trivial⟩
     ·rw [h3] at hr
      simp only [go_sem, h3]
      have q0 := @decide_true; have q1 := @decide_false; have q2 := @h1; have q3 := @h2; have q4 := @h3; refine a9T (aF f.fID 1 60) (qI f.fOwner) (aF f.fLink 0 60) (eT s (by unfold aM; omega)) ?_
      exact aA ⟨⟨_, rfl, by simp only [go_sem, hr, bT, decide_true, decide_false]⟩, trivial⟩
theorem uN (x : TStore) (hx : dE x ≤ 4300000) : FnC Tryz.prog 48 [vB x] (ob (dI x)) := by
 unfold dE aM eZ at hx
 refine ent Tryz.func48 rfl Tryz.call48 rfl (fun C => ?_); simp only [go_sem, st0, Tryz.ntmps48]
 refine aK ?_
 refine bC (α := Nat) (fun k => [(8, oi k)]) (fun _ => []) (fun k => k ≤ x.fFiles.length ∧ (List.range x.fFiles.length).all (gL x) = ((List.range x.fFiles.length).drop k).all (gL x)) (fun k => x.fFiles.length - k) 0 (fun _ => ?_) ?_ ?_ (fun k hk => ?_)
 ·simp only [go_sem]
 ·simp only [go_sem]; simp
 ·simp
 ·obtain ⟨hk, hq⟩ := hk
  simp only [go_sem]
  refine aK ?_
  refine cnd rfl (fun h => ?_) (fun h => ?_)
  ·simp only [decide_eq_true_eq, Int.ofNat_lt] at h
   have h' : k < (List.range x.fFiles.length).length := by simpa using h
   have hd := List.drop_eq_getElem_cons h'
   rw [hd, List.all_cons, List.getElem_range] at hq
   have hw := bL wFile x.fFiles h
   have hr : gL x k = (eQ x.fSchema x.fFiles[k] && (!decide (x.fNextID ≤ x.fFiles[k].fID) && a4q x.fFiles k)) := by unfold gL; rw [List.getElem?_eq_getElem h]
   have q0 := @h; have q1 := @decide_true; have q2 := @decide_false; refine fG (iQ x.fSchema x.fFiles[k] (by unfold aM; omega) (by omega)) ?_
   cases hm : eQ x.fSchema x.fFiles[k]
   ·rw [hm] at hr
    simp only [go_sem, hm]
    have q0 := @h; have q1 := @decide_true; have q2 := @decide_false; have q3 := @hm; refine jE ?_
    have hf : dI x = false := by
     unfold dI
     rw [hq, hr]; simp
    exact aA ⟨⟨_, rfl, by simp only [go_sem, hf]⟩, trivial⟩
   ·rw [hm] at hr
    simp only [go_sem, hm]
    have q0 := @h; have q1 := @decide_true; have q2 := @decide_false; have q3 := @hm; refine tX (iQ x.fSchema x.fFiles[k] (by unfold aM; omega) (by omega)) ?_
    by_cases hn : x.fNextID ≤ x.fFiles[k].fID
    ·simp only [hn, decide_true] at hr
     simp only [go_sem, hn, decide_true]
     have q0 := @h; have q1 := @decide_true; have q2 := @decide_false; have q3 := @hm; have q4 := @hn; refine wS ?_
     have hf : dI x = false := by
      unfold dI
      rw [hq, hr]; simp
     exact aA ⟨⟨_, rfl, by simp only [go_sem, hf]⟩, trivial⟩
    ·simp only [hn, decide_false] at hr
     simp only [go_sem, hn, decide_false]
     have q0 := @h; have q1 := @decide_true; have q2 := @decide_false; have q3 := @hm; have q4 := @hn; refine qP (iQ x.fSchema x.fFiles[k] (by unfold aM; omega) (by omega)) ?_
     by_cases hk0 : 0 < k
     ·have hki : (0 : Int) < (k : Int) := by omega
      have hkx : (k : Int) - 1 = ((k - 1 : Nat) : Int) := by omega
      have hkl : k - 1 < x.fFiles.length := by omega
      rw [a3g x.fFiles k hk0 h] at hr
      simp only [go_sem, hki, hkx, hkl, decide_true]
      have q0 := @h; have q1 := @decide_true; have q2 := @decide_false; have q3 := @hm; have q4 := @hn; have q5 := @hki; have q6 := @hkx; have q7 := @hkl; refine a3V (iQ x.fSchema x.fFiles[k] (by unfold aM; omega) (by omega)) ?_
      by_cases ho : x.fFiles[k].fID ≤ x.fFiles[k - 1].fID
      ·simp only [ho, decide_true] at hr
       simp only [go_sem, ho, decide_true]
       have q0 := @h; have q1 := @decide_true; have q2 := @decide_false; have q3 := @hm; have q4 := @hn; have q5 := @hki; have q6 := @hkx; have q7 := @hkl; have q8 := @ho; refine uZ ?_
       have hf : dI x = false := by
        unfold dI
        rw [hq, hr]; simp
       exact aA ⟨⟨_, rfl, by simp only [go_sem, hf]⟩, trivial⟩
      ·simp only [ho, decide_false] at hr
       simp only [go_sem, ho, decide_false]
       have q0 := @h; have q1 := @decide_true; have q2 := @decide_false; have q3 := @hm; have q4 := @hn; have q5 := @hki; have q6 := @hkx; have q7 := @hkl; have q8 := @ho; refine a5H (iQ x.fSchema x.fFiles[k] (by unfold aM; omega) (by omega)) ?_
       refine aG (k + 1) ?_ ?_ ?_
       ·simp only [go_sem]; simp
       ·refine ⟨h, ?_⟩
        rw [hq, hr]; simp
       ·omega
     ·have hki : ¬ (0 : Int) < (k : Int) := by omega
      rw [a7w x.fFiles k hk0] at hr
      simp only [go_sem, hki, decide_false]
      have q0 := @h; have q1 := @decide_true; have q2 := @decide_false; have q3 := @hm; have q4 := @hn; have q5 := @hki; refine qQ (iQ x.fSchema x.fFiles[k] (by unfold aM; omega) (by omega)) ?_
      refine aG (k + 1) ?_ ?_ ?_
      ·simp only [go_sem]; simp
      ·refine ⟨h, ?_⟩
       rw [hq, hr]; simp
      ·omega
  ·simp only [decide_eq_false_iff_not] at h
   have e : k = x.fFiles.length := by omega
   have hq' : (List.range x.fFiles.length).all (gL x) = true := by
    rw [hq, List.drop_of_length_le (by simp [e])]; rfl
   have hr : dI x = (okSchema x.fSchema && (decide ((x.fFiles.length : Int) ≤ 12) && inB x.fNextID 1 61)) := by unfold dI; rw [hq']; simp only [Bool.true_and]
   have q0 := @decide_true; have q1 := @decide_false; refine wR (eT x.fSchema (by unfold aM; omega)) (aF x.fNextID 1 61) ?_
   cases h0 : okSchema x.fSchema
   ·rw [h0] at hr
    simp only [go_sem, h0]
    have q0 := @decide_true; have q1 := @decide_false; have q2 := @h0; refine kZ ?_
    exact aA ⟨⟨_, rfl, by simp only [go_sem, hr, bT, decide_true, decide_false]⟩, trivial⟩
   ·rw [h0] at hr
    simp only [go_sem, h0]
    have q0 := @decide_true; have q1 := @decide_false; have q2 := @h0; refine a3U (eT x.fSchema (by unfold aM; omega)) (aF x.fNextID 1 61) ?_
    by_cases h1 : (x.fFiles.length : Int) ≤ 12
    ·simp only [h1, decide_true] at hr
     simp only [go_sem, h1, decide_true]
     have q0 := @decide_true; have q1 := @decide_false; have q2 := @h0; have q3 := @h1; refine rY (eT x.fSchema (by unfold aM; omega)) (aF x.fNextID 1 61) ?_
     exact aA ⟨⟨_, rfl, by simp only [go_sem, hr, bT, decide_true, decide_false]⟩, trivial⟩
    ·simp only [h1, decide_false] at hr
     simp only [go_sem, h1, decide_false]
     have q0 := @decide_true; have q1 := @decide_false; have q2 := @h0; have q3 := @h1; refine jE ?_
     exact aA ⟨⟨_, rfl, by simp only [go_sem, hr, bT, decide_true, decide_false]⟩, trivial⟩
theorem uO (d : List TDir) (hd : eX d ≤ 4300000) : FnC Tryz.prog 105 [.o (.d (.sl (d.map bW)))] (ob (dB d)) := by
 unfold eX at hd
 refine ent Tryz.func105 rfl Tryz.call105 rfl (fun C => ?_); simp only [go_sem, st0, Tryz.ntmps105]
 refine aK ?_
 refine bC (α := Nat) (fun k => [(7, oi k)]) (fun _ => []) (fun k => k ≤ d.length ∧ (List.range d.length).all (iD d) = ((List.range d.length).drop k).all (iD d)) (fun k => d.length - k) 0 (fun _ => ?_) ?_ ?_ (fun k hk => ?_)
 ·simp only [go_sem]
 ·simp only [go_sem]; simp
 ·simp
 ·obtain ⟨hk, hq⟩ := hk
  simp only [go_sem]
  refine aK ?_
  refine cnd rfl (fun h => ?_) (fun h => ?_)
  ·simp only [decide_eq_true_eq, Int.ofNat_lt] at h
   have h' : k < (List.range d.length).length := by simpa using h
   have hd := List.drop_eq_getElem_cons h'
   rw [hd, List.all_cons, List.getElem_range] at hq
   have hw := bL wDir d h
   have hw1 : d[k].fName.size + bN d[k].fQuery ≤ wDir d[k] := by unfold wDir; omega
   have hr : iD d k = (aY d[k].fName 6 && (mY TDir.fName d k && okQ d[k].fQuery)) := by unfold iD; rw [List.getElem?_eq_getElem h]
   have q0 := @h; have q1 := @decide_true; have q2 := @decide_false; refine a3U (aN d[k].fName (by omega)) (bF d[k].fQuery (by omega)) ?_
   cases ht : aY d[k].fName 6
   ·rw [ht] at hr
    simp only [go_sem, ht]
    have q0 := @h; have q1 := @decide_true; have q2 := @decide_false; have q3 := @ht; refine jE ?_
    have hf : dB d = false := by
     unfold dB
     rw [hq, hr]; simp
    exact aA ⟨⟨_, rfl, by simp only [go_sem, hf]⟩, trivial⟩
   ·rw [ht] at hr
    simp only [go_sem, ht]
    have q0 := @h; have q1 := @decide_true; have q2 := @decide_false; have q3 := @ht; refine rY (aN d[k].fName (by omega)) (bF d[k].fQuery (by omega)) ?_
    by_cases hk0 : 0 < k
    ·have hki : (0 : Int) < (k : Int) := by omega
     have hkx : (k : Int) - 1 = ((k - 1 : Nat) : Int) := by omega
     have hkl : k - 1 < d.length := by omega
     rw [jH TDir.fName d k hk0 h] at hr
     simp only [go_sem, hki, hkx, hkl, decide_true]
     have q0 := @h; have q1 := @decide_true; have q2 := @decide_false; have q3 := @ht; have q4 := @hki; have q5 := @hkx; have q6 := @hkl; refine a8m (aN d[k].fName (by omega)) (bF d[k].fQuery (by omega)) ?_
     cases ho : iW (TDir.fName d[k - 1]) (TDir.fName d[k])
     ·rw [ho] at hr
      simp only [go_sem, ho]
      have q0 := @h; have q1 := @decide_true; have q2 := @decide_false; have q3 := @ht; have q4 := @hki; have q5 := @hkx; have q6 := @hkl; have q7 := @ho; refine yS ?_
      have hf : dB d = false := by
       unfold dB
       rw [hq, hr]; simp
      exact aA ⟨⟨_, rfl, by simp only [go_sem, hf]⟩, trivial⟩
     ·rw [ho] at hr
      simp only [go_sem, ho]
      have q0 := @h; have q1 := @decide_true; have q2 := @decide_false; have q3 := @ht; have q4 := @hki; have q5 := @hkx; have q6 := @hkl; have q7 := @ho; refine a6T (aN d[k].fName (by omega)) (bF d[k].fQuery (by omega)) ?_
      cases hv : okQ d[k].fQuery
      ·rw [hv] at hr
       simp only [go_sem, hv]
       have q0 := @h; have q1 := @decide_true; have q2 := @decide_false; have q3 := @ht; have q4 := @hki; have q5 := @hkx; have q6 := @hkl; have q7 := @ho; have q8 := @hv; refine uZ ?_
       have hf : dB d = false := by
        unfold dB
        rw [hq, hr]; simp
       exact aA ⟨⟨_, rfl, by simp only [go_sem, hf]⟩, trivial⟩
      ·rw [hv] at hr
       simp only [go_sem, hv]
       have q0 := @h; have q1 := @decide_true; have q2 := @decide_false; have q3 := @ht; have q4 := @hki; have q5 := @hkx; have q6 := @hkl; have q7 := @ho; have q8 := @hv; refine a3W (aN d[k].fName (by omega)) (bF d[k].fQuery (by omega)) ?_
       refine aG (k + 1) ?_ ?_ ?_
       ·simp only [go_sem]; simp
       ·refine ⟨h, ?_⟩
        rw [hq, hr]; simp
       ·omega
    ·have hki : ¬ (0 : Int) < (k : Int) := by omega
     rw [nV TDir.fName d k hk0] at hr
     simp only [go_sem, hki, decide_false]
     have q0 := @h; have q1 := @decide_true; have q2 := @decide_false; have q3 := @ht; have q4 := @hki; refine a5F (aN d[k].fName (by omega)) (bF d[k].fQuery (by omega)) ?_
     cases hv : okQ d[k].fQuery
     ·rw [hv] at hr
      simp only [go_sem, hv]
      have q0 := @h; have q1 := @decide_true; have q2 := @decide_false; have q3 := @ht; have q4 := @hki; have q5 := @hv; refine a9g ?_
      have hf : dB d = false := by
       unfold dB
       rw [hq, hr]; simp
      exact aA ⟨⟨_, rfl, by simp only [go_sem, hf]⟩, trivial⟩
     ·rw [hv] at hr
      simp only [go_sem, hv]
      have q0 := @h; have q1 := @decide_true; have q2 := @decide_false; have q3 := @ht; have q4 := @hki; have q5 := @hv; refine a0f (aN d[k].fName (by omega)) (bF d[k].fQuery (by omega)) ?_
      refine aG (k + 1) ?_ ?_ ?_
      ·simp only [go_sem]; simp
      ·refine ⟨h, ?_⟩
       rw [hq, hr]; simp
      ·omega
  ·simp only [decide_eq_false_iff_not] at h
   have e : k = d.length := by omega
   have hq' : (List.range d.length).all (iD d) = true := by
    rw [hq, List.drop_of_length_le (by simp [e])]; rfl
   have hr : dB d = decide ((d.length : Int) ≤ 5) := by unfold dB; rw [hq']; simp only [Bool.true_and]
   have q0 := @decide_true; have q1 := @decide_false; refine tV ?_
   exact aA ⟨⟨_, rfl, by simp only [go_sem, hr, bT, decide_true, decide_false]⟩, trivial⟩
theorem jJ (l : List TField) (s : ByteArray) (hl : l.length ≤ 4300000) : FnC Tryz.prog 118 [.o (.d (.sl (l.map aZ))), os s] (oi (eF s l)) := by
 generalize hg : eF s l = res
 refine ent Tryz.func118 rfl Tryz.call118 rfl (fun C => ?_); simp only [go_sem, st0, Tryz.ntmps118]
 refine aK ?_
 refine bC (α := Nat) (fun k => [(5, oi k)]) (fun k => []) (fun k => k ≤ l.length ∧ eF s (l.drop k) = res) (fun k => l.length - k) 0 (fun _ => ?_) ?_ ?_ (fun k hk => ?_)
 ·simp only [go_sem]
 ·simp only [go_sem]; simp
 ·simp [hg]
 ·simp only [go_sem]
  obtain ⟨hk, hq⟩ := hk
  refine aK ?_
  refine cnd rfl (fun h1 => ?_) (fun h1 => ?_)
  ·simp only [decide_eq_true_eq, Int.ofNat_lt] at h1
   rw [pO s l k h1] at hq
   by_cases hv : l[k].fName = s
   ·rw [if_pos hv] at hq
    have q0 := @h1; have q1 := @hv; have q2 := @decide_true; refine kZ ?_
    exact aA ⟨⟨_, rfl, by simp only [go_sem, hq]⟩, trivial⟩
   ·rw [if_neg hv] at hq
    have q0 := @h1; have q1 := @hv; have q2 := @decide_false; refine kZ ?_
    refine aG (k + 1) ?_ ?_ ?_
    ·simp only [go_sem]; simp
    ·exact ⟨by omega, hq⟩
    ·omega
  ·simp only [decide_eq_false_iff_not] at h1
   have e : k = l.length := by omega
   subst e
   rw [List.drop_length] at hq
   have hn : res = 0 := hq.symm
   subst hn
   refine aK ?_
   exact aA ⟨⟨_, rfl, by simp only [go_sem]⟩, trivial⟩
theorem gM (s : List TField) (n : ByteArray) (v : TValue) (hl : s.length ≤ 4300000) (hs : v.fStr.size ≤ 4300000) : FnC Tryz.prog 97 [.o (.d (.sl (s.map aZ))), os n, jG v] (ob (lW s n v)) := by
 have hr : lW s n v = (dN v && (!decide (v.fKind = 0) && decide (v.fKind = eF n s))) := rfl
 refine ent Tryz.func97 rfl Tryz.call97 rfl (fun C => ?_); simp only [go_sem, st0, Tryz.ntmps97]
 have q0 := @decide_true; have q1 := @decide_false; refine wR (aL v hs) (jJ s n hl) ?_
 cases hv : dN v
 ·rw [hv] at hr
  simp only [go_sem, hv]
  have q0 := @decide_true; have q1 := @decide_false; have q2 := @hv; refine kZ ?_
  exact aA ⟨⟨_, rfl, by simp only [go_sem, hr, bT, decide_true, decide_false]⟩, trivial⟩
 ·rw [hv] at hr
  simp only [go_sem, hv]
  have q0 := @decide_true; have q1 := @decide_false; have q2 := @hv; refine a3U (aL v hs) (jJ s n hl) ?_
  by_cases hk : v.fKind = 0
  ·simp only [hk, decide_true] at hr
   simp only [go_sem, hk, decide_true]
   have q0 := @decide_true; have q1 := @decide_false; have q2 := @hv; have q3 := @hk; refine jE ?_
   exact aA ⟨⟨_, rfl, by simp only [go_sem, hr, bT, decide_true, decide_false]⟩, trivial⟩
  ·simp only [hk, decide_false] at hr
   simp only [go_sem, hk, decide_false]
   have q0 := @decide_true; have q1 := @decide_false; have q2 := @hv; have q3 := @hk; refine rY (aL v hs) (jJ s n hl) ?_
   exact aA ⟨⟨_, rfl, by simp only [go_sem, hr, bT, decide_true, decide_false]⟩, trivial⟩
theorem eU (s : List TField) (hl : aM s ≤ 4300000) : FnC Tryz.prog 70 [.o (.d (.sl (s.map aZ)))] (ob (okSchema s)) := by
 unfold aM at hl
 refine ent Tryz.func70 rfl Tryz.call70 rfl (fun C => ?_); simp only [go_sem, st0, Tryz.ntmps70]
 refine aK ?_
 refine bC (α := Nat) (fun k => [(3, oi k)]) (fun _ => []) (fun k => k ≤ s.length ∧ (List.range s.length).all (fC s) = ((List.range s.length).drop k).all (fC s)) (fun k => s.length - k) 0 (fun _ => ?_) ?_ ?_ (fun k hk => ?_)
 ·simp only [go_sem]
 ·simp only [go_sem]; simp
 ·simp
 ·obtain ⟨hk, hq⟩ := hk
  simp only [go_sem]
  refine aK ?_
  refine cnd rfl (fun h => ?_) (fun h => ?_)
  ·simp only [decide_eq_true_eq, Int.ofNat_lt] at h
   have h' : k < (List.range s.length).length := by simpa using h
   have hd := List.drop_eq_getElem_cons h'
   rw [hd, List.all_cons, List.getElem_range] at hq
   have hw := bL wField s h
   have hw1 : s[k].fName.size ≤ wField s[k] := by unfold wField; omega
   have hr : fC s k = (aY s[k].fName 1 && (inB s[k].fKind 1 2 && mY TField.fName s k)) := by unfold fC; rw [List.getElem?_eq_getElem h]
   have q0 := @h; have q1 := @decide_true; have q2 := @decide_false; refine a3U (aD s[k].fName (by omega)) (aR s[k].fKind 1 2) ?_
   cases ht : aY s[k].fName 1
   ·rw [ht] at hr
    simp only [go_sem, ht]
    have q0 := @h; have q1 := @decide_true; have q2 := @decide_false; have q3 := @ht; refine jE ?_
    have hf : okSchema s = false := by
     unfold okSchema
     rw [hq, hr]; simp
    exact aA ⟨⟨_, rfl, by simp only [go_sem, hf]⟩, trivial⟩
   ·rw [ht] at hr
    simp only [go_sem, ht]
    have q0 := @h; have q1 := @decide_true; have q2 := @decide_false; have q3 := @ht; refine rY (aD s[k].fName (by omega)) (aR s[k].fKind 1 2) ?_
    cases hb : inB s[k].fKind 1 2
    ·rw [hb] at hr
     simp only [go_sem, hb]
     have q0 := @h; have q1 := @decide_true; have q2 := @decide_false; have q3 := @ht; have q4 := @hb; refine wS ?_
     have hf : okSchema s = false := by
      unfold okSchema
      rw [hq, hr]; simp
     exact aA ⟨⟨_, rfl, by simp only [go_sem, hf]⟩, trivial⟩
    ·rw [hb] at hr
     simp only [go_sem, hb]
     have q0 := @h; have q1 := @decide_true; have q2 := @decide_false; have q3 := @ht; have q4 := @hb; refine a5F (aD s[k].fName (by omega)) (aR s[k].fKind 1 2) ?_
     by_cases hk0 : 0 < k
     ·have hki : (0 : Int) < (k : Int) := by omega
      have hkx : (k : Int) - 1 = ((k - 1 : Nat) : Int) := by omega
      have hkl : k - 1 < s.length := by omega
      rw [jH TField.fName s k hk0 h] at hr
      simp only [go_sem, hki, hkx, hkl, decide_true]
      have q0 := @h; have q1 := @decide_true; have q2 := @decide_false; have q3 := @ht; have q4 := @hb; have q5 := @hki; have q6 := @hkx; have q7 := @hkl; refine a6T (aD s[k].fName (by omega)) (aR s[k].fKind 1 2) ?_
      cases ho : iW (TField.fName s[k - 1]) (TField.fName s[k])
      ·rw [ho] at hr
       simp only [go_sem, ho]
       have q0 := @h; have q1 := @decide_true; have q2 := @decide_false; have q3 := @ht; have q4 := @hb; have q5 := @hki; have q6 := @hkx; have q7 := @hkl; have q8 := @ho; refine uZ ?_
       have hf : okSchema s = false := by
        unfold okSchema
        rw [hq, hr]; simp
       exact aA ⟨⟨_, rfl, by simp only [go_sem, hf]⟩, trivial⟩
      ·rw [ho] at hr
       simp only [go_sem, ho]
       have q0 := @h; have q1 := @decide_true; have q2 := @decide_false; have q3 := @ht; have q4 := @hb; have q5 := @hki; have q6 := @hkx; have q7 := @hkl; have q8 := @ho; refine a3W (aD s[k].fName (by omega)) (aR s[k].fKind 1 2) ?_
       refine aG (k + 1) ?_ ?_ ?_
       ·simp only [go_sem]; simp
       ·refine ⟨h, ?_⟩
        rw [hq, hr]; simp
       ·omega
     ·have hki : ¬ (0 : Int) < (k : Int) := by omega
      rw [nV TField.fName s k hk0] at hr
      simp only [go_sem, hki, decide_false]
      have q0 := @h; have q1 := @decide_true; have q2 := @decide_false; have q3 := @ht; have q4 := @hb; have q5 := @hki; refine a0f (aD s[k].fName (by omega)) (aR s[k].fKind 1 2) ?_
      refine aG (k + 1) ?_ ?_ ?_
      ·simp only [go_sem]; simp
      ·refine ⟨h, ?_⟩
       rw [hq, hr]; simp
      ·omega
  ·simp only [decide_eq_false_iff_not] at h
   have e : k = s.length := by omega
   have hq' : (List.range s.length).all (fC s) = true := by
    rw [hq, List.drop_of_length_le (by simp [e])]; rfl
   have hr : okSchema s = decide ((s.length : Int) ≤ 5) := by unfold okSchema; rw [hq']; simp only [Bool.true_and]
   have q0 := @decide_true; have q1 := @decide_false; refine tV ?_
   exact aA ⟨⟨_, rfl, by simp only [go_sem, hr, bT, decide_true, decide_false]⟩, trivial⟩
theorem iR (s : List TField) (f : TFile) (hl : aM s ≤ 4300000) (hf : wFile f ≤ 4300000) : FnC Tryz.prog 69 [.o (.d (.sl (s.map aZ))), qX f] (ob (eQ s f)) := by
 unfold aM at hl
 unfold wFile dV at hf
 refine ent Tryz.func69 rfl Tryz.call69 rfl (fun C => ?_); simp only [go_sem, st0, Tryz.ntmps69]
 refine aK ?_
 refine bC (α := Nat) (fun k => [(5, oi k)]) (fun _ => []) (fun k => k ≤ f.fAttrs.length ∧ (List.range f.fAttrs.length).all (gK s f.fAttrs) = ((List.range f.fAttrs.length).drop k).all (gK s f.fAttrs)) (fun k => f.fAttrs.length - k) 0 (fun _ => ?_) ?_ ?_ (fun k hk => ?_)
 ·simp only [go_sem]
 ·simp only [go_sem]; simp
 ·simp
 ·obtain ⟨hk, hq⟩ := hk
  simp only [go_sem]
  refine aK ?_
  refine cnd rfl (fun h => ?_) (fun h => ?_)
  ·simp only [decide_eq_true_eq, Int.ofNat_lt] at h
   have h' : k < (List.range f.fAttrs.length).length := by simpa using h
   have hd := List.drop_eq_getElem_cons h'
   rw [hd, List.all_cons, List.getElem_range] at hq
   have hw := bL wAttr f.fAttrs h
   have hw1 : f.fAttrs[k].fName.size + f.fAttrs[k].fValue.fStr.size ≤ wAttr f.fAttrs[k] := by unfold wAttr eB; omega
   have hr : gK s f.fAttrs k = (lW s f.fAttrs[k].fName f.fAttrs[k].fValue && mY TAttr.fName f.fAttrs k) := by unfold gK; rw [List.getElem?_eq_getElem h]; exact Bool.and_comm _ _
   have q0 := @h; have q1 := @decide_true; have q2 := @decide_false; refine fG (gM s f.fAttrs[k].fName f.fAttrs[k].fValue (by omega) (by omega)) ?_
   cases hm : lW s f.fAttrs[k].fName f.fAttrs[k].fValue
   ·rw [hm] at hr
    simp only [go_sem, hm]
    have q0 := @h; have q1 := @decide_true; have q2 := @decide_false; have q3 := @hm; refine jE ?_
    have hf : eQ s f = false := by
     unfold eQ
     rw [hq, hr]; simp
    exact aA ⟨⟨_, rfl, by simp only [go_sem, hf]⟩, trivial⟩
   ·rw [hm] at hr
    simp only [go_sem, hm]
    have q0 := @h; have q1 := @decide_true; have q2 := @decide_false; have q3 := @hm; refine tX (gM s f.fAttrs[k].fName f.fAttrs[k].fValue (by omega) (by omega)) ?_
    by_cases hk0 : 0 < k
    ·have hki : (0 : Int) < (k : Int) := by omega
     have hkx : (k : Int) - 1 = ((k - 1 : Nat) : Int) := by omega
     have hkl : k - 1 < f.fAttrs.length := by omega
     rw [jH TAttr.fName f.fAttrs k hk0 h] at hr
     simp only [go_sem, hki, hkx, hkl, decide_true]
     have q0 := @h; have q1 := @decide_true; have q2 := @decide_false; have q3 := @hm; have q4 := @hki; have q5 := @hkx; have q6 := @hkl; refine a5G (gM s f.fAttrs[k].fName f.fAttrs[k].fValue (by omega) (by omega)) ?_
     cases ho : iW (TAttr.fName f.fAttrs[k - 1]) (TAttr.fName f.fAttrs[k])
     ·rw [ho] at hr
      simp only [go_sem, ho]
      have q0 := @h; have q1 := @decide_true; have q2 := @decide_false; have q3 := @hm; have q4 := @hki; have q5 := @hkx; have q6 := @hkl; have q7 := @ho; refine yS ?_
      have hf : eQ s f = false := by
       unfold eQ
       rw [hq, hr]; simp
      exact aA ⟨⟨_, rfl, by simp only [go_sem, hf]⟩, trivial⟩
     ·rw [ho] at hr
      simp only [go_sem, ho]
      have q0 := @h; have q1 := @decide_true; have q2 := @decide_false; have q3 := @hm; have q4 := @hki; have q5 := @hkx; have q6 := @hkl; have q7 := @ho; refine a3V (gM s f.fAttrs[k].fName f.fAttrs[k].fValue (by omega) (by omega)) ?_
      refine aG (k + 1) ?_ ?_ ?_
      ·simp only [go_sem]; simp
      ·refine ⟨h, ?_⟩
       rw [hq, hr]; simp
      ·omega
    ·have hki : ¬ (0 : Int) < (k : Int) := by omega
     rw [nV TAttr.fName f.fAttrs k hk0] at hr
     simp only [go_sem, hki, decide_false]
     have q0 := @h; have q1 := @decide_true; have q2 := @decide_false; have q3 := @hm; have q4 := @hki; refine qP (gM s f.fAttrs[k].fName f.fAttrs[k].fValue (by omega) (by omega)) ?_
     refine aG (k + 1) ?_ ?_ ?_
     ·simp only [go_sem]; simp
     ·refine ⟨h, ?_⟩
      rw [hq, hr]; simp
     ·omega
  ·simp only [decide_eq_false_iff_not] at h
   have e : k = f.fAttrs.length := by omega
   have hq' : (List.range f.fAttrs.length).all (gK s f.fAttrs) = true := by
    rw [hq, List.drop_of_length_le (by simp [e])]; rfl
   have hr : eQ s f = (okSchema s && (inB f.fID 1 60 && (inB f.fOwner 0 2 && inB f.fLink 0 60))) := by unfold eQ; rw [hq']; simp only [Bool.true_and]; cases okSchema s <;> simp
   have q0 := @decide_true; have q1 := @decide_false; refine a9R (aR f.fID 1 60) (aR f.fOwner 0 2) (aR f.fLink 0 60) (eU s (by unfold aM; omega)) ?_
   cases h0 : okSchema s
   ·rw [h0] at hr
    simp only [go_sem, h0]
    have q0 := @decide_true; have q1 := @decide_false; have q2 := @h0; refine kZ ?_
    exact aA ⟨⟨_, rfl, by simp only [go_sem, hr, bT, decide_true, decide_false]⟩, trivial⟩
   ·rw [h0] at hr
    simp only [go_sem, h0]
    have q0 := @decide_true; have q1 := @decide_false; have q2 := @h0; refine a9S (aR f.fID 1 60) (aR f.fOwner 0 2) (aR f.fLink 0 60) (eU s (by unfold aM; omega)) ?_
    cases h1 : inB f.fID 1 60
    ·rw [h1] at hr
     simp only [go_sem, h1]
     have q0 := @decide_true; have q1 := @decide_false; have q2 := @h0; have q3 := @h1; refine jE ?_
     exact aA ⟨⟨_, rfl, by simp only [go_sem, hr, bT, decide_true, decide_false]⟩, trivial⟩
    ·rw [h1] at hr
     simp only [go_sem, h1]
     have q0 := @decide_true; have q1 := @decide_false; have q2 := @h0; have q3 := @h1; refine a8l (aR f.fID 1 60) (aR f.fOwner 0 2) (aR f.fLink 0 60) (eU s (by unfold aM; omega)) ?_
     cases h2 : inB f.fOwner 0 2
     ·rw [h2] at hr
      simp only [go_sem, h2]
      have q0 := @decide_true; have q1 := @decide_false; have q2 := @h0; have q3 := @h1; have q4 := @h2; refine wS ?_
      exact aA ⟨⟨_, rfl, by simp only [go_sem, hr, bT, decide_true, decide_false]⟩, trivial⟩
     ·rw [h2] at hr
      simp only [go_sem, h2]
      have q0 := @decide_true; have q1 := @decide_false; have q2 := @h0; have q3 := @h1; have q4 := @h2; refine a9T (aR f.fID 1 60) (aR f.fOwner 0 2) (aR f.fLink 0 60) (eU s (by unfold aM; omega)) ?_
      exact aA ⟨⟨_, rfl, by simp only [go_sem, hr, bT, decide_true, decide_false]⟩, trivial⟩
theorem uP (x : TStore) (hx : dE x ≤ 4300000) : FnC Tryz.prog 42 [vB x] (ob (dI x)) := by
 unfold dE aM eZ at hx
 refine ent Tryz.func42 rfl Tryz.call42 rfl (fun C => ?_); simp only [go_sem, st0, Tryz.ntmps42]
 refine aK ?_
 refine bC (α := Nat) (fun k => [(3, oi k)]) (fun _ => []) (fun k => k ≤ x.fFiles.length ∧ (List.range x.fFiles.length).all (gL x) = ((List.range x.fFiles.length).drop k).all (gL x)) (fun k => x.fFiles.length - k) 0 (fun _ => ?_) ?_ ?_ (fun k hk => ?_)
 ·simp only [go_sem]
 ·simp only [go_sem]; simp
 ·simp
 ·obtain ⟨hk, hq⟩ := hk
  simp only [go_sem]
  refine aK ?_
  refine cnd rfl (fun h => ?_) (fun h => ?_)
  ·simp only [decide_eq_true_eq, Int.ofNat_lt] at h
   have h' : k < (List.range x.fFiles.length).length := by simpa using h
   have hd := List.drop_eq_getElem_cons h'
   rw [hd, List.all_cons, List.getElem_range] at hq
   have hw := bL wFile x.fFiles h
   have hr : gL x k = (eQ x.fSchema x.fFiles[k] && (!decide (x.fNextID ≤ x.fFiles[k].fID) && a4q x.fFiles k)) := by unfold gL; rw [List.getElem?_eq_getElem h]
   have q0 := @h; have q1 := @decide_true; have q2 := @decide_false; refine fG (iR x.fSchema x.fFiles[k] (by unfold aM; omega) (by omega)) ?_
   cases hm : eQ x.fSchema x.fFiles[k]
   ·rw [hm] at hr
    simp only [go_sem, hm]
    have q0 := @h; have q1 := @decide_true; have q2 := @decide_false; have q3 := @hm; refine jE ?_
    have hf : dI x = false := by
     unfold dI
     rw [hq, hr]; simp
    exact aA ⟨⟨_, rfl, by simp only [go_sem, hf]⟩, trivial⟩
   ·rw [hm] at hr
    simp only [go_sem, hm]
    have q0 := @h; have q1 := @decide_true; have q2 := @decide_false; have q3 := @hm; refine tX (iR x.fSchema x.fFiles[k] (by unfold aM; omega) (by omega)) ?_
    by_cases hn : x.fNextID ≤ x.fFiles[k].fID
    ·simp only [hn, decide_true] at hr
     simp only [go_sem, hn, decide_true]
     have q0 := @h; have q1 := @decide_true; have q2 := @decide_false; have q3 := @hm; have q4 := @hn; refine wS ?_
     have hf : dI x = false := by
      unfold dI
      rw [hq, hr]; simp
     exact aA ⟨⟨_, rfl, by simp only [go_sem, hf]⟩, trivial⟩
    ·simp only [hn, decide_false] at hr
     simp only [go_sem, hn, decide_false]
     have q0 := @h; have q1 := @decide_true; have q2 := @decide_false; have q3 := @hm; have q4 := @hn; refine qP (iR x.fSchema x.fFiles[k] (by unfold aM; omega) (by omega)) ?_
     by_cases hk0 : 0 < k
     ·have hki : (0 : Int) < (k : Int) := by omega
      have hkx : (k : Int) - 1 = ((k - 1 : Nat) : Int) := by omega
      have hkl : k - 1 < x.fFiles.length := by omega
      rw [a3g x.fFiles k hk0 h] at hr
      simp only [go_sem, hki, hkx, hkl, decide_true]
      have q0 := @h; have q1 := @decide_true; have q2 := @decide_false; have q3 := @hm; have q4 := @hn; have q5 := @hki; have q6 := @hkx; have q7 := @hkl; refine a3V (iR x.fSchema x.fFiles[k] (by unfold aM; omega) (by omega)) ?_
      by_cases ho : x.fFiles[k].fID ≤ x.fFiles[k - 1].fID
      ·simp only [ho, decide_true] at hr
       simp only [go_sem, ho, decide_true]
       have q0 := @h; have q1 := @decide_true; have q2 := @decide_false; have q3 := @hm; have q4 := @hn; have q5 := @hki; have q6 := @hkx; have q7 := @hkl; have q8 := @ho; refine uZ ?_
       have hf : dI x = false := by
        unfold dI
        rw [hq, hr]; simp
       exact aA ⟨⟨_, rfl, by simp only [go_sem, hf]⟩, trivial⟩
      ·simp only [ho, decide_false] at hr
       simp only [go_sem, ho, decide_false]
       have q0 := @h; have q1 := @decide_true; have q2 := @decide_false; have q3 := @hm; have q4 := @hn; have q5 := @hki; have q6 := @hkx; have q7 := @hkl; have q8 := @ho; refine a5H (iR x.fSchema x.fFiles[k] (by unfold aM; omega) (by omega)) ?_
       refine aG (k + 1) ?_ ?_ ?_
       ·simp only [go_sem]; simp
       ·refine ⟨h, ?_⟩
        rw [hq, hr]; simp
       ·omega
     ·have hki : ¬ (0 : Int) < (k : Int) := by omega
      rw [a7w x.fFiles k hk0] at hr
      simp only [go_sem, hki, decide_false]
      have q0 := @h; have q1 := @decide_true; have q2 := @decide_false; have q3 := @hm; have q4 := @hn; have q5 := @hki; refine qQ (iR x.fSchema x.fFiles[k] (by unfold aM; omega) (by omega)) ?_
      refine aG (k + 1) ?_ ?_ ?_
      ·simp only [go_sem]; simp
      ·refine ⟨h, ?_⟩
       rw [hq, hr]; simp
      ·omega
  ·simp only [decide_eq_false_iff_not] at h
   have e : k = x.fFiles.length := by omega
   have hq' : (List.range x.fFiles.length).all (gL x) = true := by
    rw [hq, List.drop_of_length_le (by simp [e])]; rfl
   have hr : dI x = (okSchema x.fSchema && (decide ((x.fFiles.length : Int) ≤ 12) && inB x.fNextID 1 61)) := by unfold dI; rw [hq']; simp only [Bool.true_and]
   have q0 := @decide_true; have q1 := @decide_false; refine wR (eU x.fSchema (by unfold aM; omega)) (aR x.fNextID 1 61) ?_
   cases h0 : okSchema x.fSchema
   ·rw [h0] at hr
    simp only [go_sem, h0]
    have q0 := @decide_true; have q1 := @decide_false; have q2 := @h0; refine kZ ?_
    exact aA ⟨⟨_, rfl, by simp only [go_sem, hr, bT, decide_true, decide_false]⟩, trivial⟩
   ·rw [h0] at hr
    simp only [go_sem, h0]
    have q0 := @decide_true; have q1 := @decide_false; have q2 := @h0; refine a3U (eU x.fSchema (by unfold aM; omega)) (aR x.fNextID 1 61) ?_
    by_cases h1 : (x.fFiles.length : Int) ≤ 12
    ·simp only [h1, decide_true] at hr
     simp only [go_sem, h1, decide_true]
     have q0 := @decide_true; have q1 := @decide_false; have q2 := @h0; have q3 := @h1; refine rY (eU x.fSchema (by unfold aM; omega)) (aR x.fNextID 1 61) ?_
     exact aA ⟨⟨_, rfl, by simp only [go_sem, hr, bT, decide_true, decide_false]⟩, trivial⟩
    ·simp only [h1, decide_false] at hr
     simp only [go_sem, h1, decide_false]
     have q0 := @decide_true; have q1 := @decide_false; have q2 := @h0; have q3 := @h1; refine jE ?_
     exact aA ⟨⟨_, rfl, by simp only [go_sem, hr, bT, decide_true, decide_false]⟩, trivial⟩
theorem uQ (d : List TDir) (hd : eX d ≤ 4300000) : FnC Tryz.prog 98 [.o (.d (.sl (d.map bW)))] (ob (dB d)) := by
 unfold eX at hd
 refine ent Tryz.func98 rfl Tryz.call98 rfl (fun C => ?_); simp only [go_sem, st0, Tryz.ntmps98]
 refine aK ?_
 refine bC (α := Nat) (fun k => [(3, oi k)]) (fun _ => []) (fun k => k ≤ d.length ∧ (List.range d.length).all (iD d) = ((List.range d.length).drop k).all (iD d)) (fun k => d.length - k) 0 (fun _ => ?_) ?_ ?_ (fun k hk => ?_)
 ·simp only [go_sem]
 ·simp only [go_sem]; simp
 ·simp
 ·obtain ⟨hk, hq⟩ := hk
  simp only [go_sem]
  refine aK ?_
  refine cnd rfl (fun h => ?_) (fun h => ?_)
  ·simp only [decide_eq_true_eq, Int.ofNat_lt] at h
   have h' : k < (List.range d.length).length := by simpa using h
   have hd := List.drop_eq_getElem_cons h'
   rw [hd, List.all_cons, List.getElem_range] at hq
   have hw := bL wDir d h
   have hw1 : d[k].fName.size + bN d[k].fQuery ≤ wDir d[k] := by unfold wDir; omega
   have hr : iD d k = (aY d[k].fName 6 && (okQ d[k].fQuery && mY TDir.fName d k)) := by unfold iD; rw [List.getElem?_eq_getElem h, Bool.and_comm (okQ d[k].fQuery)]
   have q0 := @h; have q1 := @decide_true; have q2 := @decide_false; refine a3U (aT d[k].fName (by omega)) (bJ d[k].fQuery (by omega)) ?_
   cases ht : aY d[k].fName 6
   ·rw [ht] at hr
    simp only [go_sem, ht]
    have q0 := @h; have q1 := @decide_true; have q2 := @decide_false; have q3 := @ht; refine jE ?_
    have hf : dB d = false := by
     unfold dB
     rw [hq, hr]; simp
    exact aA ⟨⟨_, rfl, by simp only [go_sem, hf]⟩, trivial⟩
   ·rw [ht] at hr
    simp only [go_sem, ht]
    have q0 := @h; have q1 := @decide_true; have q2 := @decide_false; have q3 := @ht; refine rY (aT d[k].fName (by omega)) (bJ d[k].fQuery (by omega)) ?_
    cases hv : okQ d[k].fQuery
    ·rw [hv] at hr
     simp only [go_sem, hv]
     have q0 := @h; have q1 := @decide_true; have q2 := @decide_false; have q3 := @ht; have q4 := @hv; refine wS ?_
     have hf : dB d = false := by
      unfold dB
      rw [hq, hr]; simp
     exact aA ⟨⟨_, rfl, by simp only [go_sem, hf]⟩, trivial⟩
    ·rw [hv] at hr
     simp only [go_sem, hv]
     have q0 := @h; have q1 := @decide_true; have q2 := @decide_false; have q3 := @ht; have q4 := @hv; refine a5F (aT d[k].fName (by omega)) (bJ d[k].fQuery (by omega)) ?_
     by_cases hk0 : 0 < k
     ·have hki : (0 : Int) < (k : Int) := by omega
      have hkx : (k : Int) - 1 = ((k - 1 : Nat) : Int) := by omega
      have hkl : k - 1 < d.length := by omega
      rw [jH TDir.fName d k hk0 h] at hr
      simp only [go_sem, hki, hkx, hkl, decide_true]
      have q0 := @h; have q1 := @decide_true; have q2 := @decide_false; have q3 := @ht; have q4 := @hv; have q5 := @hki; have q6 := @hkx; have q7 := @hkl; refine a6T (aT d[k].fName (by omega)) (bJ d[k].fQuery (by omega)) ?_
      cases ho : iW (TDir.fName d[k - 1]) (TDir.fName d[k])
      ·rw [ho] at hr
       simp only [go_sem, ho]
       have q0 := @h; have q1 := @decide_true; have q2 := @decide_false; have q3 := @ht; have q4 := @hv; have q5 := @hki; have q6 := @hkx; have q7 := @hkl; have q8 := @ho; refine uZ ?_
       have hf : dB d = false := by
        unfold dB
        rw [hq, hr]; simp
       exact aA ⟨⟨_, rfl, by simp only [go_sem, hf]⟩, trivial⟩
      ·rw [ho] at hr
       simp only [go_sem, ho]
       have q0 := @h; have q1 := @decide_true; have q2 := @decide_false; have q3 := @ht; have q4 := @hv; have q5 := @hki; have q6 := @hkx; have q7 := @hkl; have q8 := @ho; refine a3W (aT d[k].fName (by omega)) (bJ d[k].fQuery (by omega)) ?_
       refine aG (k + 1) ?_ ?_ ?_
       ·simp only [go_sem]; simp
       ·refine ⟨h, ?_⟩
        rw [hq, hr]; simp
       ·omega
     ·have hki : ¬ (0 : Int) < (k : Int) := by omega
      rw [nV TDir.fName d k hk0] at hr
      simp only [go_sem, hki, decide_false]
      have q0 := @h; have q1 := @decide_true; have q2 := @decide_false; have q3 := @ht; have q4 := @hv; have q5 := @hki; refine a0f (aT d[k].fName (by omega)) (bJ d[k].fQuery (by omega)) ?_
      refine aG (k + 1) ?_ ?_ ?_
      ·simp only [go_sem]; simp
      ·refine ⟨h, ?_⟩
       rw [hq, hr]; simp
      ·omega
  ·simp only [decide_eq_false_iff_not] at h
   have e : k = d.length := by omega
   have hq' : (List.range d.length).all (iD d) = true := by
    rw [hq, List.drop_of_length_le (by simp [e])]; rfl
   have hr : dB d = decide ((d.length : Int) ≤ 5) := by unfold dB; rw [hq']; simp only [Bool.true_and]
   have q0 := @decide_true; have q1 := @decide_false; refine tV ?_
   exact aA ⟨⟨_, rfl, by simp only [go_sem, hr, bT, decide_true, decide_false]⟩, trivial⟩
end Go.Proofs.YtdjgfffnaakehaaGreatDoor
end
section
namespace Go.Proofs.YtdjgfffnaakehaaGreatDoor
open Go Go.Sx Go.RowKit Go.Proofs
def b1l (l : List Int) : List Int := l.mergeSort fun x y => decide (x ≤ y)
theorem jZ {α : Type} [Inhabited α] [DecidableEq α] (d : Array α) : ∀ m, (Lib.compactUpTo d m).length ≤ m
 | 0 => by simp [Lib.compactUpTo]
 | m + 1 => by
  have := jZ d m
  rw [Lib.compactUpTo_succ, List.length_append]
  split <;> simp <;> omega
def b1m (l : List Int) : List Int := Lib.compact l
def bl (s : ByteArray) : List UInt8 := s.data.toList
def lb (l : List UInt8) : ByteArray := ⟨l.toArray⟩
theorem a8H (l : List UInt8) : bl (lb l) = l := rfl
theorem a7B (s : ByteArray) : lb (bl s) = s := by cases s; simp [lb, bl]
def rC (l : List (List UInt8)) : List (List UInt8) := l.mergeSort fun x y => decide (x ≤ y)
def pR (l : List ByteArray) : List ByteArray := (rC (l.map bl)).map lb
def a3j (l : List ByteArray) : List ByteArray := (Lib.compact (l.map bl)).map lb
theorem vR (l : List ByteArray) : (pR l).length = l.length := by simp [pR, rC, List.length_mergeSort]
theorem a1N (l : List ByteArray) : l.map dA = qR Go.Proofs.encStr (l.map bl) := by
 simp only [qR, List.map_map]
 refine List.map_congr_left fun s _ => ?_
 have h := a7B s
 simp only [lb] at h
 simp only [Function.comp, dA, Go.Proofs.encStr, h]
theorem a5b (l : List (List UInt8)) : (l.map lb).map dA = qR Go.Proofs.encStr l := by
 rw [a1N, List.map_map]
 congr 1
 simp [Function.comp_def, a8H]
theorem rF (x : List UInt8) : scalar (Go.Proofs.encStr x) = true := rfl
theorem zV (l : List ByteArray) (hl : l.length ≤ 4611686018427387903) : FnI Tryz.prog 149 9 1 (l.map dA) [] true ((pR l).map dA) := by
 refine ⟨Tryz.call149, fun V w y S vs hm hrow hnd hlt hargs => ?_⟩
 have hvs : vs = [] := by have := hargs.1; simpa using this
 subst hvs
 rw [pR, a5b]
 rw [a1N] at hrow
 rcases scal_down (e := Go.Proofs.encStr) hrow with ⟨⟨ao, rfl⟩, hn, rfl⟩ | ⟨b, cap, c, rfl, h1, h2, h3, h4, h5, h6, rfl⟩
 ·refine (Any.slices_Sort_string_none Tryz.laysSortStr ao 0 w).mono ?_
  rintro e w' ⟨rfl, rfl⟩
  exact ⟨_, rfl, fun _ => rfl, ⟨⟨rfl, rfl, rfl, Nat.le_refl _, fun _ _ _ => rfl⟩, [], (by rw [hn] at hrow ⊢; simpa [rC] using hrow), hnd, fun b hb => .inl hb, fun _ => rfl⟩⟩
 ·have hb : b < w.heap.size := (Array.getElem?_eq_some_iff.1 h3).1
  refine (Any.slices_Sort_string Tryz.laysSortStr b 0 cap (l.map bl) w h5 hb (by simp; omega)).mono ?_
  rintro e w' ⟨rfl, n, os, rfl⟩
  have hsl : (rC (l.map bl)).length = (l.map bl).length := by simp [rC, List.length_mergeSort]
  have hup := a4O (e := Go.Proofs.encStr) (l := rC (l.map bl)) (d := (rC (l.map bl)).toArray) rF h3 h4 h2 (by simp only [List.size_toArray, hsl]; exact h1) rfl (List.prefix_refl _) h6 (n := n) (os := os)
  rw [hsl] at hup
  exact ⟨_, rfl, fun _ => rfl, ⟨hup.2, [b], hup.1, hnd, fun b hb => .inl hb, fun _ => rfl⟩⟩
theorem rG (l : List ByteArray) (hl : l.length ≤ 4611686018427387903) : FnI Tryz.prog 150 9 1 (l.map dA) [] false ((a3j l).map dA) := by
 refine ⟨Tryz.call150, fun V w y S vs hm hrow hnd hlt hargs => ?_⟩
 have hvs : vs = [] := by have := hargs.1; simpa using this
 subst hvs
 rw [a3j, a5b]
 rw [a1N] at hrow
 rcases scal_down (e := Go.Proofs.encStr) hrow with ⟨⟨ao, rfl⟩, hn, rfl⟩ | ⟨b, cap, c, rfl, h1, h2, h3, h4, h5, h6, rfl⟩
 ·refine (Any.slices_Compact_string_empty Tryz.laysCompactStr ao 0 w).mono ?_
  rintro e w' ⟨rfl, rfl⟩
  exact ⟨_, rfl, fun h => (by cases h), ⟨⟨rfl, rfl, rfl, Nat.le_refl _, fun _ _ _ => rfl⟩, [], (by rw [hn] at hrow ⊢; exact hrow), hnd, fun b hb => .inl hb, fun _ => rfl⟩⟩
 ·have hb : b < w.heap.size := (Array.getElem?_eq_some_iff.1 h3).1
  refine (Any.slices_Compact_string Tryz.laysCompactStr b 0 cap (l.map bl) w h5 (by simp; omega) h1).mono ?_
  rintro e w' ⟨rfl, n, rfl⟩
  have hle : (Lib.compact (l.map bl)).length ≤ (l.map bl).length := jZ _ _
  have hup := a4O (e := Go.Proofs.encStr) (l := Lib.compact (l.map bl)) (d := (Lib.compact (l.map bl) ++ List.replicate ((l.map bl).length - (Lib.compact (l.map bl)).length) []).toArray) (w' := Sort.putRow Go.Proofs.encStr (Sort.ahead w n) b 0 (Lib.compact (l.map bl) ++ List.replicate ((l.map bl).length - (Lib.compact (l.map bl)).length) []).toArray) rF h3 h4 h2 (by simp only [List.size_toArray, List.length_append, List.length_replicate]; omega) (by rw [Sort.grow_empty]) (by simp) h6 (n := n) (os := #[])
  exact ⟨_, rfl, fun h => (by cases h), ⟨hup.2, [b], hup.1, hnd, fun b hb => .inl hb, fun _ => rfl⟩⟩
end Go.Proofs.YtdjgfffnaakehaaGreatDoor
end
