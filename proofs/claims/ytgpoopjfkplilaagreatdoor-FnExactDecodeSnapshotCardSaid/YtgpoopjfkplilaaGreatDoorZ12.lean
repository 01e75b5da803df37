/- Joined texts. -/
import Derived.Test.YtgpoopjfkplilaaGreatDoorZ10
import Derived.Test.YtgpoopjfkplilaaGreatDoorZ01
import Derived.Test.YtgpoopjfkplilaaGreatDoorZ08
set_option linter.all false
section
set_option maxRecDepth 100000
set_option maxHeartbeats 4000000
namespace Go.Proofs.YtgpoopjfkplilaaGreatDoor
open Go Go.Sx Go.RowKit Go.Proofs
def nP {α : Type} (g : α → ByteArray) (l : List α) (k : Nat) : Bool := decide (k = 0) || (match l[k - 1]?, l[k]? with
 | some p, some x => jM (g p) (g x)
 | _, _ => true)
theorem rH {α : Type} (g : α → ByteArray) (l : List α) (k : Nat) (h : ¬ 0 < k) : nP g l k = true := by
 have e : k = 0 := by omega
 simp [nP, e]
theorem jD {α : Type} (g : α → ByteArray) (l : List α) (k : Nat) (h : 0 < k) (hl : k < l.length) : nP g l k = jM (g (l[k - 1]'(by omega))) (g l[k]) := by
 have h1 : k - 1 < l.length := by omega
 have e : ¬ k = 0 := by omega
 simp [nP, e, List.getElem?_eq_getElem h1, List.getElem?_eq_getElem hl]
def a8b (l : List TFile) (k : Nat) : Bool := decide (k = 0) || (match l[k - 1]?, l[k]? with
 | some p, some x => !decide (x.fID ≤ p.fID)
 | _, _ => true)
theorem b1Z (l : List TFile) (k : Nat) (h : ¬ 0 < k) : a8b l k = true := by
 have e : k = 0 := by omega
 simp [a8b, e]
theorem a6z (l : List TFile) (k : Nat) (h : 0 < k) (hl : k < l.length) : a8b l k = !decide (l[k].fID ≤ (l[k - 1]'(by omega)).fID) := by
 have h1 : k - 1 < l.length := by omega
 have e : ¬ k = 0 := by omega
 simp only [a8b, e, decide_false, Bool.false_or, List.getElem?_eq_getElem h1, List.getElem?_eq_getElem hl]
def fF (s : ByteArray) : List TField → Int
 | [] => 0
 | f :: l => if f.fName = s then f.fKind else fF s l
theorem uC (s : ByteArray) (l : List TField) (k : Nat) (h : k < l.length) : fF s (l.drop k) = if l[k].fName = s then l[k].fKind else fF s (l.drop (k + 1)) := by
 rw [List.drop_eq_getElem_cons h]; rfl
def gD (s : List TField) (k : Nat) : Bool := match s[k]? with
 | none => true
 | some f => aN f.fName 1 && (inB f.fKind 1 2 && nP TField.fName s k)
def okSchema (s : List TField) : Bool := (List.range s.length).all (gD s) && decide ((s.length : Int) ≤ 5)
def lF (s : List TField) (n : ByteArray) (v : TValue) : Bool := cB v && (!decide (v.fKind = 0) && decide (v.fKind = fF n s))
def iI (s : List TField) (l : List TAttr) (k : Nat) : Bool := match l[k]? with
 | none => true
 | some a => nP TAttr.fName l k && lF s a.fName a.fValue
def fC (s : List TField) (f : TFile) : Bool := (List.range f.fAttrs.length).all (iI s f.fAttrs) && (inB f.fID 1 60 && (inB f.fOwner 0 2 && (inB f.fLink 0 60 && okSchema s)))
def iJ (x : TStore) (k : Nat) : Bool := match x.fFiles[k]? with
 | none => true
 | some f => fC x.fSchema f && (!decide (x.fNextID ≤ f.fID) && a8b x.fFiles k)
def dM (x : TStore) : Bool := (List.range x.fFiles.length).all (iJ x) && (okSchema x.fSchema && (decide ((x.fFiles.length : Int) ≤ 12) && inB x.fNextID 1 61))
def jE (d : List TDir) (k : Nat) : Bool := match d[k]? with
 | none => true
 | some x => aN x.fName 6 && (nP TDir.fName d k && okQ x.fQuery)
def dH (d : List TDir) : Bool := (List.range d.length).all (jE d) && decide ((d.length : Int) ≤ 5)
theorem lG (l : List TField) (s : ByteArray) (hl : l.length ≤ 4300000) : FnC Tryz.prog 226 [.o (.d (.sl (l.map bF))), os s] (oi (fF s l)) := by
 generalize hg : fF s l = res
 refine ent Tryz.func226 rfl Tryz.call226 rfl (fun C => ?_); simp only [go_sem, st0, Tryz.ntmps226]
 refine aJ ?_
 refine bE (α := Nat) (fun k => [(9, oi k)]) (fun k => []) (fun k => k ≤ l.length ∧ fF s (l.drop k) = res) (fun k => l.length - k) 0 (fun _ => ?_) ?_ ?_ (fun k hk => ?_)
 ·simp only [go_sem]
 ·simp only [go_sem]; simp
 ·simp [hg]
 ·simp only [go_sem]
  obtain ⟨hk, hq⟩ := hk
  refine aJ ?_
  refine cnd rfl (fun h1 => ?_) (fun h1 => ?_)
  ·simp only [decide_eq_true_eq, Int.ofNat_lt] at h1
   rw [uC s l k h1] at hq
   by_cases hv : l[k].fName = s
   ·rw [if_pos hv] at hq
    have q0 := @h1; have q1 := @hv; have q2 := @decide_true; refine kZ ?_
    exact aA ⟨⟨_, rfl, by simp only [go_sem, hq]⟩, trivial⟩
   ·rw [if_neg hv] at hq
    have q0 := @h1; have q1 := @hv; have q2 := @decide_false; refine kZ ?_
    refine aH (k + 1) ?_ ?_ ?_
    ·simp only [go_sem]; simp
    ·exact ⟨by omega, hq⟩
    ·omega
  ·simp only [decide_eq_false_iff_not] at h1
   have e : k = l.length := by omega
   subst e
   rw [List.drop_length] at hq
   have hn : res = 0 := hq.symm
   subst hn
   refine aJ ?_
   exact aA ⟨⟨_, rfl, by simp only [go_sem]⟩, trivial⟩
theorem gT (s : List TField) (n : ByteArray) (v : TValue) (hl : s.length ≤ 4300000) (hs : v.fStr.size ≤ 4300000) : FnC Tryz.prog 185 [.o (.d (.sl (s.map bF))), os n, kN v] (ob (lF s n v)) := by
 have hr : lF s n v = (cB v && (!decide (v.fKind = 0) && decide (v.fKind = fF n s))) := rfl
 refine ent Tryz.func185 rfl Tryz.call185 rfl (fun C => ?_); simp only [go_sem, st0, Tryz.ntmps185]
 have q0 := @decide_true; have q1 := @decide_false; refine a2I (aC v hs) (lG s n hl) ?_
 cases hv : cB v
 ·rw [hv] at hr
  simp only [go_sem, hv]
  have q0 := @decide_true; have q1 := @decide_false; have q2 := @hv; refine kZ ?_
  exact aA ⟨⟨_, rfl, by simp only [go_sem, hr, bT, decide_true, decide_false]⟩, trivial⟩
 ·rw [hv] at hr
  simp only [go_sem, hv]
  have q0 := @decide_true; have q1 := @decide_false; have q2 := @hv; refine a6c (aC v hs) (lG s n hl) ?_
  by_cases hk : v.fKind = 0
  ·simp only [hk, decide_true] at hr
   simp only [go_sem, hk, decide_true]
   have q0 := @decide_true; have q1 := @decide_false; have q2 := @hv; have q3 := @hk; refine jJ ?_
   exact aA ⟨⟨_, rfl, by simp only [go_sem, hr, bT, decide_true, decide_false]⟩, trivial⟩
  ·simp only [hk, decide_false] at hr
   simp only [go_sem, hk, decide_false]
   have q0 := @decide_true; have q1 := @decide_false; have q2 := @hv; have q3 := @hk; refine a1U (aC v hs) (lG s n hl) ?_
   exact aA ⟨⟨_, rfl, by simp only [go_sem, hr, bT, decide_true, decide_false]⟩, trivial⟩
theorem gK (s : List TField) (hl : bA s ≤ 4300000) : FnC Tryz.prog 138 [.o (.d (.sl (s.map bF)))] (ob (okSchema s)) := by
 unfold bA at hl
 refine ent Tryz.func138 rfl Tryz.call138 rfl (fun C => ?_); simp only [go_sem, st0, Tryz.ntmps138]
 refine aJ ?_
 refine bE (α := Nat) (fun k => [(7, oi k)]) (fun _ => []) (fun k => k ≤ s.length ∧ (List.range s.length).all (gD s) = ((List.range s.length).drop k).all (gD s)) (fun k => s.length - k) 0 (fun _ => ?_) ?_ ?_ (fun k hk => ?_)
 ·simp only [go_sem]
 ·simp only [go_sem]; simp
 ·simp
 ·obtain ⟨hk, hq⟩ := hk
  simp only [go_sem]
  refine aJ ?_
  refine cnd rfl (fun h => ?_) (fun h => ?_)
  ·simp only [decide_eq_true_eq, Int.ofNat_lt] at h
   have h' : k < (List.range s.length).length := by simpa using h
   have hd := List.drop_eq_getElem_cons h'
   rw [hd, List.all_cons, List.getElem_range] at hq
   have hw := dK lD s h
   have hw1 : s[k].fName.size ≤ lD s[k] := by unfold lD; omega
   have hr : gD s k = (aN s[k].fName 1 && (inB s[k].fKind 1 2 && nP TField.fName s k)) := by unfold gD; rw [List.getElem?_eq_getElem h]
   have q0 := @h; have q1 := @decide_true; have q2 := @decide_false; refine jT (aB s[k].fName) ?_
   cases ht : aN s[k].fName 1
   ·rw [ht] at hr
    simp only [go_sem, ht]
    have q0 := @h; have q1 := @decide_true; have q2 := @decide_false; have q3 := @ht; refine jJ ?_
    have hf : okSchema s = false := by
     unfold okSchema
     rw [hq, hr]; simp
    exact aA ⟨⟨_, rfl, by simp only [go_sem, hf]⟩, trivial⟩
   ·rw [ht] at hr
    simp only [go_sem, ht]
    have q0 := @h; have q1 := @decide_true; have q2 := @decide_false; have q3 := @ht; refine tT (aB s[k].fName) ?_
    cases hb : inB s[k].fKind 1 2
    ·rw [hb] at hr
     have hb2 : ¬ (1 ≤ s[k].fKind ∧ s[k].fKind ≤ 2) := by intro hx; simp [inB, hx.1, hx.2] at hb
     have k1 : ¬ s[k].fKind = 1 := by omega
     have k2 : ¬ s[k].fKind = 2 := by omega
     simp only [go_sem, k1, k2, decide_false]
     have q0 := @h; have q1 := @decide_true; have q2 := @decide_false; have q3 := @ht; have q4 := @k1; have q5 := @k2; refine a7I ?_
     have hf : okSchema s = false := by
      unfold okSchema
      rw [hq, hr]; simp
     exact aA ⟨⟨_, rfl, by simp only [go_sem, hf]⟩, trivial⟩
    ·rw [hb] at hr
     have hb2 : 1 ≤ s[k].fKind ∧ s[k].fKind ≤ 2 := by simpa [inB] using hb
     by_cases k1 : s[k].fKind = 1
     ·simp only [go_sem, k1, decide_true]
      have q0 := @h; have q1 := @decide_true; have q2 := @decide_false; have q3 := @ht; have q4 := @k1; refine nT (aB s[k].fName) ?_
      by_cases hk0 : 0 < k
      ·have hki : (0 : Int) < (k : Int) := by omega
       have hkx : (k : Int) - 1 = ((k - 1 : Nat) : Int) := by omega
       have hkl : k - 1 < s.length := by omega
       rw [jD TField.fName s k hk0 h] at hr
       simp only [go_sem, hki, hkx, hkl, decide_true]
       have q0 := @h; have q1 := @decide_true; have q2 := @decide_false; have q3 := @ht; have q4 := @k1; have q5 := @hki; have q6 := @hkx; have q7 := @hkl; refine a7K (aB s[k].fName) ?_
       cases ho : jM (TField.fName s[k - 1]) (TField.fName s[k])
       ·rw [ho] at hr
        simp only [go_sem, ho]
        have q0 := @h; have q1 := @decide_true; have q2 := @decide_false; have q3 := @ht; have q4 := @k1; have q5 := @hki; have q6 := @hkx; have q7 := @hkl; have q8 := @ho; refine zU ?_
        have hf : okSchema s = false := by
         unfold okSchema
         rw [hq, hr]; simp
        exact aA ⟨⟨_, rfl, by simp only [go_sem, hf]⟩, trivial⟩
       ·rw [ho] at hr
        simp only [go_sem, ho]
        have q0 := @h; have q1 := @decide_true; have q2 := @decide_false; have q3 := @ht; have q4 := @k1; have q5 := @hki; have q6 := @hkx; have q7 := @hkl; have q8 := @ho; refine b0g (aB s[k].fName) ?_
        refine aH (k + 1) ?_ ?_ ?_
        ·simp only [go_sem]; simp
        ·refine ⟨h, ?_⟩
         rw [hq, hr]; simp
        ·omega
      ·have hki : ¬ (0 : Int) < (k : Int) := by omega
       rw [rH TField.fName s k hk0] at hr
       simp only [go_sem, hki, decide_false]
       have q0 := @h; have q1 := @decide_true; have q2 := @decide_false; have q3 := @ht; have q4 := @k1; have q5 := @hki; refine sK (aB s[k].fName) ?_
       refine aH (k + 1) ?_ ?_ ?_
       ·simp only [go_sem]; simp
       ·refine ⟨h, ?_⟩
        rw [hq, hr]; simp
       ·omega
     ·have k2 : s[k].fKind = 2 := by omega
      simp only [go_sem, k1, k2, decide_true, decide_false]
      have q0 := @h; have q1 := @decide_true; have q2 := @decide_false; have q3 := @ht; have q4 := @k1; have q5 := @k2; refine sK (aB s[k].fName) ?_
      by_cases hk0 : 0 < k
      ·have hki : (0 : Int) < (k : Int) := by omega
       have hkx : (k : Int) - 1 = ((k - 1 : Nat) : Int) := by omega
       have hkl : k - 1 < s.length := by omega
       rw [jD TField.fName s k hk0 h] at hr
       simp only [go_sem, hki, hkx, hkl, decide_true]
       have q0 := @h; have q1 := @decide_true; have q2 := @decide_false; have q3 := @ht; have q4 := @k1; have q5 := @k2; have q6 := @hki; have q7 := @hkx; have q8 := @hkl; refine b0g (aB s[k].fName) ?_
       cases ho : jM (TField.fName s[k - 1]) (TField.fName s[k])
       ·rw [ho] at hr
        simp only [go_sem, ho]
        have q0 := @h; have q1 := @decide_true; have q2 := @decide_false; have q3 := @ht; have q4 := @k1; have q5 := @k2; have q6 := @hki; have q7 := @hkx; have q8 := @hkl; have q9 := @ho; refine nK ?_
        have hf : okSchema s = false := by
         unfold okSchema
         rw [hq, hr]; simp
        exact aA ⟨⟨_, rfl, by simp only [go_sem, hf]⟩, trivial⟩
       ·rw [ho] at hr
        simp only [go_sem, ho]
        have q0 := @h; have q1 := @decide_true; have q2 := @decide_false; have q3 := @ht; have q4 := @k1; have q5 := @k2; have q6 := @hki; have q7 := @hkx; have q8 := @hkl; have q9 := @ho; refine a8I (aB s[k].fName) ?_
        refine aH (k + 1) ?_ ?_ ?_
        ·simp only [go_sem]; simp
        ·refine ⟨h, ?_⟩
         rw [hq, hr]; simp
        ·omega
      ·have hki : ¬ (0 : Int) < (k : Int) := by omega
       rw [rH TField.fName s k hk0] at hr
       simp only [go_sem, hki, decide_false]
       have q0 := @h; have q1 := @decide_true; have q2 := @decide_false; have q3 := @ht; have q4 := @k1; have q5 := @k2; have q6 := @hki; refine a4O (aB s[k].fName) ?_
       refine aH (k + 1) ?_ ?_ ?_
       ·simp only [go_sem]; simp
       ·refine ⟨h, ?_⟩
        rw [hq, hr]; simp
       ·omega
  ·simp only [decide_eq_false_iff_not] at h
   have e : k = s.length := by omega
   have hq' : (List.range s.length).all (gD s) = true := by
    rw [hq, List.drop_of_length_le (by simp [e])]; rfl
   have hr : okSchema s = decide ((s.length : Int) ≤ 5) := by unfold okSchema; rw [hq']; simp only [Bool.true_and]
   have q0 := @decide_true; have q1 := @decide_false; refine jN ?_
   exact aA ⟨⟨_, rfl, by simp only [go_sem, hr, bT, decide_true, decide_false]⟩, trivial⟩
theorem uQ (n : Int) : FnC Tryz.prog 186 [oi n] (ob (inB n 0 2)) := by
 refine ent Tryz.func186 rfl Tryz.call186 rfl (fun C => ?_); simp only [go_sem, st0, Tryz.ntmps186]
 refine mH (aF n 0 2) ?_
 exact aA ⟨⟨_, rfl, by simp only [go_sem]⟩, trivial⟩
theorem kC (s : List TField) (f : TFile) (hl : bA s ≤ 4300000) (hf : gY f ≤ 4300000) : FnC Tryz.prog 137 [.o (.d (.sl (s.map bF))), a0w f] (ob (fC s f)) := by
 unfold bA at hl
 unfold gY iB at hf
 refine ent Tryz.func137 rfl Tryz.call137 rfl (fun C => ?_); simp only [go_sem, st0, Tryz.ntmps137]
 refine aJ ?_
 refine bE (α := Nat) (fun k => [(10, oi k)]) (fun _ => []) (fun k => k ≤ f.fAttrs.length ∧ (List.range f.fAttrs.length).all (iI s f.fAttrs) = ((List.range f.fAttrs.length).drop k).all (iI s f.fAttrs)) (fun k => f.fAttrs.length - k) 0 (fun _ => ?_) ?_ ?_ (fun k hk => ?_)
 ·simp only [go_sem]
 ·simp only [go_sem]; simp
 ·simp
 ·obtain ⟨hk, hq⟩ := hk
  simp only [go_sem]
  refine aJ ?_
  refine cnd rfl (fun h => ?_) (fun h => ?_)
  ·simp only [decide_eq_true_eq, Int.ofNat_lt] at h
   have h' : k < (List.range f.fAttrs.length).length := by simpa using h
   have hd := List.drop_eq_getElem_cons h'
   rw [hd, List.all_cons, List.getElem_range] at hq
   have hw := dK qD f.fAttrs h
   have hw1 : f.fAttrs[k].fName.size + f.fAttrs[k].fValue.fStr.size ≤ qD f.fAttrs[k] := by unfold qD lW; omega
   have hr : iI s f.fAttrs k = (nP TAttr.fName f.fAttrs k && lF s f.fAttrs[k].fName f.fAttrs[k].fValue) := by unfold iI; rw [List.getElem?_eq_getElem h]
   have q0 := @h; have q1 := @decide_true; have q2 := @decide_false; refine jT (gT s f.fAttrs[k].fName f.fAttrs[k].fValue (by omega) (by omega)) ?_
   by_cases hk0 : 0 < k
   ·have hki : (0 : Int) < (k : Int) := by omega
    have hkx : (k : Int) - 1 = ((k - 1 : Nat) : Int) := by omega
    have hkl : k - 1 < f.fAttrs.length := by omega
    rw [jD TAttr.fName f.fAttrs k hk0 h] at hr
    simp only [go_sem, hki, hkx, hkl, decide_true]
    have q0 := @h; have q1 := @decide_true; have q2 := @decide_false; have q3 := @hki; have q4 := @hkx; have q5 := @hkl; refine sK (gT s f.fAttrs[k].fName f.fAttrs[k].fValue (by omega) (by omega)) ?_
    cases ho : jM (TAttr.fName f.fAttrs[k - 1]) (TAttr.fName f.fAttrs[k])
    ·rw [ho] at hr
     simp only [go_sem, ho]
     have q0 := @h; have q1 := @decide_true; have q2 := @decide_false; have q3 := @hki; have q4 := @hkx; have q5 := @hkl; have q6 := @ho; refine a7J ?_
     have hf : fC s f = false := by
      unfold fC
      rw [hq, hr]; simp
     exact aA ⟨⟨_, rfl, by simp only [go_sem, hf]⟩, trivial⟩
    ·rw [ho] at hr
     simp only [go_sem, ho]
     have q0 := @h; have q1 := @decide_true; have q2 := @decide_false; have q3 := @hki; have q4 := @hkx; have q5 := @hkl; have q6 := @ho; refine a4O (gT s f.fAttrs[k].fName f.fAttrs[k].fValue (by omega) (by omega)) ?_
     cases hm : lF s f.fAttrs[k].fName f.fAttrs[k].fValue
     ·rw [hm] at hr
      simp only [go_sem, hm]
      have q0 := @h; have q1 := @decide_true; have q2 := @decide_false; have q3 := @hki; have q4 := @hkx; have q5 := @hkl; have q6 := @ho; have q7 := @hm; refine a0H ?_
      have hf : fC s f = false := by
       unfold fC
       rw [hq, hr]; simp
      exact aA ⟨⟨_, rfl, by simp only [go_sem, hf]⟩, trivial⟩
     ·rw [hm] at hr
      simp only [go_sem, hm]
      have q0 := @h; have q1 := @decide_true; have q2 := @decide_false; have q3 := @hki; have q4 := @hkx; have q5 := @hkl; have q6 := @ho; have q7 := @hm; refine a7K (gT s f.fAttrs[k].fName f.fAttrs[k].fValue (by omega) (by omega)) ?_
      refine aH (k + 1) ?_ ?_ ?_
      ·simp only [go_sem]; simp
      ·refine ⟨h, ?_⟩
       rw [hq, hr]; simp
      ·omega
   ·have hki : ¬ (0 : Int) < (k : Int) := by omega
    rw [rH TAttr.fName f.fAttrs k hk0] at hr
    simp only [go_sem, hki, decide_false]
    have q0 := @h; have q1 := @decide_true; have q2 := @decide_false; have q3 := @hki; refine tT (gT s f.fAttrs[k].fName f.fAttrs[k].fValue (by omega) (by omega)) ?_
    cases hm : lF s f.fAttrs[k].fName f.fAttrs[k].fValue
    ·rw [hm] at hr
     simp only [go_sem, hm]
     have q0 := @h; have q1 := @decide_true; have q2 := @decide_false; have q3 := @hki; have q4 := @hm; refine sJ ?_
     have hf : fC s f = false := by
      unfold fC
      rw [hq, hr]; simp
     exact aA ⟨⟨_, rfl, by simp only [go_sem, hf]⟩, trivial⟩
    ·rw [hm] at hr
     simp only [go_sem, hm]
     have q0 := @h; have q1 := @decide_true; have q2 := @decide_false; have q3 := @hki; have q4 := @hm; refine nT (gT s f.fAttrs[k].fName f.fAttrs[k].fValue (by omega) (by omega)) ?_
     refine aH (k + 1) ?_ ?_ ?_
     ·simp only [go_sem]; simp
     ·refine ⟨h, ?_⟩
      rw [hq, hr]; simp
     ·omega
  ·simp only [decide_eq_false_iff_not] at h
   have e : k = f.fAttrs.length := by omega
   have hq' : (List.range f.fAttrs.length).all (iI s f.fAttrs) = true := by
    rw [hq, List.drop_of_length_le (by simp [e])]; rfl
   have hr : fC s f = (inB f.fID 1 60 && (inB f.fOwner 0 2 && (inB f.fLink 0 60 && okSchema s))) := by unfold fC; rw [hq']; simp only [Bool.true_and]
   have q0 := @decide_true; have q1 := @decide_false; refine b5Q (aF f.fID 1 60) (uQ f.fOwner) (aF f.fLink 0 60) (gK s (by unfold bA; omega)) ?_
   cases h1 : inB f.fID 1 60
   ·rw [h1] at hr
    simp only [go_sem, h1]
    have q0 := @decide_true; have q1 := @decide_false; have q2 := @h1; refine kZ ?_
    exact aA ⟨⟨_, rfl, by simp only [go_sem, hr, bT, decide_true, decide_false]⟩, trivial⟩
   ·rw [h1] at hr
    simp only [go_sem, h1]
    have q0 := @decide_true; have q1 := @decide_false; have q2 := @h1; refine b5R (aF f.fID 1 60) (uQ f.fOwner) (aF f.fLink 0 60) (gK s (by unfold bA; omega)) ?_
    cases h2 : inB f.fOwner 0 2
    ·rw [h2] at hr
     simp only [go_sem, h2]
     have q0 := @decide_true; have q1 := @decide_false; have q2 := @h1; have q3 := @h2; refine jJ ?_
     exact aA ⟨⟨_, rfl, by simp only [go_sem, hr, bT, decide_true, decide_false]⟩, trivial⟩
    ·rw [h2] at hr
     simp only [go_sem, h2]
     have q0 := @decide_true; have q1 := @decide_false; have q2 := @h1; have q3 := @h2; refine b1D (aF f.fID 1 60) (uQ f.fOwner) (aF f.fLink 0 60) (gK s (by unfold bA; omega)) ?_
     cases h3 : inB f.fLink 0 60
     ·rw [h3] at hr
      simp only [go_sem, h3]
      have q0 := @decide_true; have q1 := @decide_false; have q2 := @h1; have q3 := @h2; have q4 := @h3; refine sJ ?_
      exact aA ⟨⟨_, rfl, by simp only [go_sem, hr, bT, decide_true, decide_false]⟩, trivial⟩
     ·rw [h3] at hr
      simp only [go_sem, h3]
      have q0 := @decide_true; have q1 := @decide_false; have q2 := @h1; have q3 := @h2; have q4 := @h3; refine b5S (aF f.fID 1 60) (uQ f.fOwner) (aF f.fLink 0 60) (gK s (by unfold bA; omega)) ?_
      exact aA ⟨⟨_, rfl, by simp only [go_sem, hr, bT, decide_true, decide_false]⟩, trivial⟩
theorem yP (x : TStore) (hx : fV x ≤ 4300000) : FnC Tryz.prog 87 [a4R x] (ob (dM x)) := by
 unfold fV bA jU at hx
 refine ent Tryz.func87 rfl Tryz.call87 rfl (fun C => ?_); simp only [go_sem, st0, Tryz.ntmps87]
 refine aJ ?_
 refine bE (α := Nat) (fun k => [(8, oi k)]) (fun _ => []) (fun k => k ≤ x.fFiles.length ∧ (List.range x.fFiles.length).all (iJ x) = ((List.range x.fFiles.length).drop k).all (iJ x)) (fun k => x.fFiles.length - k) 0 (fun _ => ?_) ?_ ?_ (fun k hk => ?_)
 ·simp only [go_sem]
 ·simp only [go_sem]; simp
 ·simp
 ·obtain ⟨hk, hq⟩ := hk
  simp only [go_sem]
  refine aJ ?_
  refine cnd rfl (fun h => ?_) (fun h => ?_)
  ·simp only [decide_eq_true_eq, Int.ofNat_lt] at h
   have h' : k < (List.range x.fFiles.length).length := by simpa using h
   have hd := List.drop_eq_getElem_cons h'
   rw [hd, List.all_cons, List.getElem_range] at hq
   have hw := dK gY x.fFiles h
   have hr : iJ x k = (fC x.fSchema x.fFiles[k] && (!decide (x.fNextID ≤ x.fFiles[k].fID) && a8b x.fFiles k)) := by unfold iJ; rw [List.getElem?_eq_getElem h]
   have q0 := @h; have q1 := @decide_true; have q2 := @decide_false; refine jT (kC x.fSchema x.fFiles[k] (by unfold bA; omega) (by omega)) ?_
   cases hm : fC x.fSchema x.fFiles[k]
   ·rw [hm] at hr
    simp only [go_sem, hm]
    have q0 := @h; have q1 := @decide_true; have q2 := @decide_false; have q3 := @hm; refine jJ ?_
    have hf : dM x = false := by
     unfold dM
     rw [hq, hr]; simp
    exact aA ⟨⟨_, rfl, by simp only [go_sem, hf]⟩, trivial⟩
   ·rw [hm] at hr
    simp only [go_sem, hm]
    have q0 := @h; have q1 := @decide_true; have q2 := @decide_false; have q3 := @hm; refine tT (kC x.fSchema x.fFiles[k] (by unfold bA; omega) (by omega)) ?_
    by_cases hn : x.fNextID ≤ x.fFiles[k].fID
    ·simp only [hn, decide_true] at hr
     simp only [go_sem, hn, decide_true]
     have q0 := @h; have q1 := @decide_true; have q2 := @decide_false; have q3 := @hm; have q4 := @hn; refine sJ ?_
     have hf : dM x = false := by
      unfold dM
      rw [hq, hr]; simp
     exact aA ⟨⟨_, rfl, by simp only [go_sem, hf]⟩, trivial⟩
    ·simp only [hn, decide_false] at hr
     simp only [go_sem, hn, decide_false]
     have q0 := @h; have q1 := @decide_true; have q2 := @decide_false; have q3 := @hm; have q4 := @hn; refine nT (kC x.fSchema x.fFiles[k] (by unfold bA; omega) (by omega)) ?_
     by_cases hk0 : 0 < k
     ·have hki : (0 : Int) < (k : Int) := by omega
      have hkx : (k : Int) - 1 = ((k - 1 : Nat) : Int) := by omega
      have hkl : k - 1 < x.fFiles.length := by omega
      rw [a6z x.fFiles k hk0 h] at hr
      simp only [go_sem, hki, hkx, hkl, decide_true]
      have q0 := @h; have q1 := @decide_true; have q2 := @decide_false; have q3 := @hm; have q4 := @hn; have q5 := @hki; have q6 := @hkx; have q7 := @hkl; refine a7K (kC x.fSchema x.fFiles[k] (by unfold bA; omega) (by omega)) ?_
      by_cases ho : x.fFiles[k].fID ≤ x.fFiles[k - 1].fID
      ·simp only [ho, decide_true] at hr
       simp only [go_sem, ho, decide_true]
       have q0 := @h; have q1 := @decide_true; have q2 := @decide_false; have q3 := @hm; have q4 := @hn; have q5 := @hki; have q6 := @hkx; have q7 := @hkl; have q8 := @ho; refine zU ?_
       have hf : dM x = false := by
        unfold dM
        rw [hq, hr]; simp
       exact aA ⟨⟨_, rfl, by simp only [go_sem, hf]⟩, trivial⟩
      ·simp only [ho, decide_false] at hr
       simp only [go_sem, ho, decide_false]
       have q0 := @h; have q1 := @decide_true; have q2 := @decide_false; have q3 := @hm; have q4 := @hn; have q5 := @hki; have q6 := @hkx; have q7 := @hkl; have q8 := @ho; refine b0g (kC x.fSchema x.fFiles[k] (by unfold bA; omega) (by omega)) ?_
       refine aH (k + 1) ?_ ?_ ?_
       ·simp only [go_sem]; simp
       ·refine ⟨h, ?_⟩
        rw [hq, hr]; simp
       ·omega
     ·have hki : ¬ (0 : Int) < (k : Int) := by omega
      rw [b1Z x.fFiles k hk0] at hr
      simp only [go_sem, hki, decide_false]
      have q0 := @h; have q1 := @decide_true; have q2 := @decide_false; have q3 := @hm; have q4 := @hn; have q5 := @hki; refine sK (kC x.fSchema x.fFiles[k] (by unfold bA; omega) (by omega)) ?_
      refine aH (k + 1) ?_ ?_ ?_
      ·simp only [go_sem]; simp
      ·refine ⟨h, ?_⟩
       rw [hq, hr]; simp
      ·omega
  ·simp only [decide_eq_false_iff_not] at h
   have e : k = x.fFiles.length := by omega
   have hq' : (List.range x.fFiles.length).all (iJ x) = true := by
    rw [hq, List.drop_of_length_le (by simp [e])]; rfl
   have hr : dM x = (okSchema x.fSchema && (decide ((x.fFiles.length : Int) ≤ 12) && inB x.fNextID 1 61)) := by unfold dM; rw [hq']; simp only [Bool.true_and]
   have q0 := @decide_true; have q1 := @decide_false; refine a2I (gK x.fSchema (by unfold bA; omega)) (aF x.fNextID 1 61) ?_
   cases h0 : okSchema x.fSchema
   ·rw [h0] at hr
    simp only [go_sem, h0]
    have q0 := @decide_true; have q1 := @decide_false; have q2 := @h0; refine kZ ?_
    exact aA ⟨⟨_, rfl, by simp only [go_sem, hr, bT, decide_true, decide_false]⟩, trivial⟩
   ·rw [h0] at hr
    simp only [go_sem, h0]
    have q0 := @decide_true; have q1 := @decide_false; have q2 := @h0; refine a6c (gK x.fSchema (by unfold bA; omega)) (aF x.fNextID 1 61) ?_
    by_cases h1 : (x.fFiles.length : Int) ≤ 12
    ·simp only [h1, decide_true] at hr
     simp only [go_sem, h1, decide_true]
     have q0 := @decide_true; have q1 := @decide_false; have q2 := @h0; have q3 := @h1; refine a1U (gK x.fSchema (by unfold bA; omega)) (aF x.fNextID 1 61) ?_
     exact aA ⟨⟨_, rfl, by simp only [go_sem, hr, bT, decide_true, decide_false]⟩, trivial⟩
    ·simp only [h1, decide_false] at hr
     simp only [go_sem, h1, decide_false]
     have q0 := @decide_true; have q1 := @decide_false; have q2 := @h0; have q3 := @h1; refine jJ ?_
     exact aA ⟨⟨_, rfl, by simp only [go_sem, hr, bT, decide_true, decide_false]⟩, trivial⟩
theorem yQ (d : List TDir) (hd : iT d ≤ 4300000) : FnC Tryz.prog 187 [.o (.d (.sl (d.map dG)))] (ob (dH d)) := by
 unfold iT at hd
 refine ent Tryz.func187 rfl Tryz.call187 rfl (fun C => ?_); simp only [go_sem, st0, Tryz.ntmps187]
 refine aJ ?_
 refine bE (α := Nat) (fun k => [(7, oi k)]) (fun _ => []) (fun k => k ≤ d.length ∧ (List.range d.length).all (jE d) = ((List.range d.length).drop k).all (jE d)) (fun k => d.length - k) 0 (fun _ => ?_) ?_ ?_ (fun k hk => ?_)
 ·simp only [go_sem]
 ·simp only [go_sem]; simp
 ·simp
 ·obtain ⟨hk, hq⟩ := hk
  simp only [go_sem]
  refine aJ ?_
  refine cnd rfl (fun h => ?_) (fun h => ?_)
  ·simp only [decide_eq_true_eq, Int.ofNat_lt] at h
   have h' : k < (List.range d.length).length := by simpa using h
   have hd := List.drop_eq_getElem_cons h'
   rw [hd, List.all_cons, List.getElem_range] at hq
   have hw := dK lS d h
   have hw1 : d[k].fName.size + wNodeS d[k].fQuery ≤ lS d[k] := by unfold lS; omega
   have hr : jE d k = (aN d[k].fName 6 && (nP TDir.fName d k && okQ d[k].fQuery)) := by unfold jE; rw [List.getElem?_eq_getElem h]
   have q0 := @h; have q1 := @decide_true; have q2 := @decide_false; refine a6c (aP d[k].fName (by omega)) (bH d[k].fQuery (by omega)) ?_
   cases ht : aN d[k].fName 6
   ·rw [ht] at hr
    simp only [go_sem, ht]
    have q0 := @h; have q1 := @decide_true; have q2 := @decide_false; have q3 := @ht; refine jJ ?_
    have hf : dH d = false := by
     unfold dH
     rw [hq, hr]; simp
    exact aA ⟨⟨_, rfl, by simp only [go_sem, hf]⟩, trivial⟩
   ·rw [ht] at hr
    simp only [go_sem, ht]
    have q0 := @h; have q1 := @decide_true; have q2 := @decide_false; have q3 := @ht; refine a1U (aP d[k].fName (by omega)) (bH d[k].fQuery (by omega)) ?_
    by_cases hk0 : 0 < k
    ·have hki : (0 : Int) < (k : Int) := by omega
     have hkx : (k : Int) - 1 = ((k - 1 : Nat) : Int) := by omega
     have hkl : k - 1 < d.length := by omega
     rw [jD TDir.fName d k hk0 h] at hr
     simp only [go_sem, hki, hkx, hkl, decide_true]
     have q0 := @h; have q1 := @decide_true; have q2 := @decide_false; have q3 := @ht; have q4 := @hki; have q5 := @hkx; have q6 := @hkl; refine b3o (aP d[k].fName (by omega)) (bH d[k].fQuery (by omega)) ?_
     cases ho : jM (TDir.fName d[k - 1]) (TDir.fName d[k])
     ·rw [ho] at hr
      simp only [go_sem, ho]
      have q0 := @h; have q1 := @decide_true; have q2 := @decide_false; have q3 := @ht; have q4 := @hki; have q5 := @hkx; have q6 := @hkl; have q7 := @ho; refine a0H ?_
      have hf : dH d = false := by
       unfold dH
       rw [hq, hr]; simp
      exact aA ⟨⟨_, rfl, by simp only [go_sem, hf]⟩, trivial⟩
     ·rw [ho] at hr
      simp only [go_sem, ho]
      have q0 := @h; have q1 := @decide_true; have q2 := @decide_false; have q3 := @ht; have q4 := @hki; have q5 := @hkx; have q6 := @hkl; have q7 := @ho; refine b1E (aP d[k].fName (by omega)) (bH d[k].fQuery (by omega)) ?_
      cases hv : okQ d[k].fQuery
      ·rw [hv] at hr
       simp only [go_sem, hv]
       have q0 := @h; have q1 := @decide_true; have q2 := @decide_false; have q3 := @ht; have q4 := @hki; have q5 := @hkx; have q6 := @hkl; have q7 := @ho; have q8 := @hv; refine zU ?_
       have hf : dH d = false := by
        unfold dH
        rw [hq, hr]; simp
       exact aA ⟨⟨_, rfl, by simp only [go_sem, hf]⟩, trivial⟩
      ·rw [hv] at hr
       simp only [go_sem, hv]
       have q0 := @h; have q1 := @decide_true; have q2 := @decide_false; have q3 := @ht; have q4 := @hki; have q5 := @hkx; have q6 := @hkl; have q7 := @ho; have q8 := @hv; refine a7L (aP d[k].fName (by omega)) (bH d[k].fQuery (by omega)) ?_
       refine aH (k + 1) ?_ ?_ ?_
       ·simp only [go_sem]; simp
       ·refine ⟨h, ?_⟩
        rw [hq, hr]; simp
       ·omega
    ·have hki : ¬ (0 : Int) < (k : Int) := by omega
     rw [rH TDir.fName d k hk0] at hr
     simp only [go_sem, hki, decide_false]
     have q0 := @h; have q1 := @decide_true; have q2 := @decide_false; have q3 := @ht; have q4 := @hki; refine a7H (aP d[k].fName (by omega)) (bH d[k].fQuery (by omega)) ?_
     cases hv : okQ d[k].fQuery
     ·rw [hv] at hr
      simp only [go_sem, hv]
      have q0 := @h; have q1 := @decide_true; have q2 := @decide_false; have q3 := @ht; have q4 := @hki; have q5 := @hv; refine a7I ?_
      have hf : dH d = false := by
       unfold dH
       rw [hq, hr]; simp
      exact aA ⟨⟨_, rfl, by simp only [go_sem, hf]⟩, trivial⟩
     ·rw [hv] at hr
      simp only [go_sem, hv]
      have q0 := @h; have q1 := @decide_true; have q2 := @decide_false; have q3 := @ht; have q4 := @hki; have q5 := @hv; refine a1V (aP d[k].fName (by omega)) (bH d[k].fQuery (by omega)) ?_
      refine aH (k + 1) ?_ ?_ ?_
      ·simp only [go_sem]; simp
      ·refine ⟨h, ?_⟩
       rw [hq, hr]; simp
      ·omega
  ·simp only [decide_eq_false_iff_not] at h
   have e : k = d.length := by omega
   have hq' : (List.range d.length).all (jE d) = true := by
    rw [hq, List.drop_of_length_le (by simp [e])]; rfl
   have hr : dH d = decide ((d.length : Int) ≤ 5) := by unfold dH; rw [hq']; simp only [Bool.true_and]
   have q0 := @decide_true; have q1 := @decide_false; refine jN ?_
   exact aA ⟨⟨_, rfl, by simp only [go_sem, hr, bT, decide_true, decide_false]⟩, trivial⟩
theorem lH (l : List TField) (s : ByteArray) (hl : l.length ≤ 4300000) : FnC Tryz.prog 199 [.o (.d (.sl (l.map bF))), os s] (oi (fF s l)) := by
 generalize hg : fF s l = res
 refine ent Tryz.func199 rfl Tryz.call199 rfl (fun C => ?_); simp only [go_sem, st0, Tryz.ntmps199]
 refine aJ ?_
 refine bE (α := Nat) (fun k => [(5, oi k)]) (fun k => []) (fun k => k ≤ l.length ∧ fF s (l.drop k) = res) (fun k => l.length - k) 0 (fun _ => ?_) ?_ ?_ (fun k hk => ?_)
 ·simp only [go_sem]
 ·simp only [go_sem]; simp
 ·simp [hg]
 ·simp only [go_sem]
  obtain ⟨hk, hq⟩ := hk
  refine aJ ?_
  refine cnd rfl (fun h1 => ?_) (fun h1 => ?_)
  ·simp only [decide_eq_true_eq, Int.ofNat_lt] at h1
   rw [uC s l k h1] at hq
   by_cases hv : l[k].fName = s
   ·rw [if_pos hv] at hq
    have q0 := @h1; have q1 := @hv; have q2 := @decide_true; refine kZ ?_
    exact aA ⟨⟨_, rfl, by simp only [go_sem, hq]⟩, trivial⟩
   ·rw [if_neg hv] at hq
    have q0 := @h1; have q1 := @hv; have q2 := @decide_false; refine kZ ?_
    refine aH (k + 1) ?_ ?_ ?_
    ·simp only [go_sem]; simp
    ·exact ⟨by omega, hq⟩
    ·omega
  ·simp only [decide_eq_false_iff_not] at h1
   have e : k = l.length := by omega
   subst e
   rw [List.drop_length] at hq
   have hn : res = 0 := hq.symm
   subst hn
   refine aJ ?_
   exact aA ⟨⟨_, rfl, by simp only [go_sem]⟩, trivial⟩
theorem iW (s : List TField) (n : ByteArray) (v : TValue) (hl : s.length ≤ 4300000) (hs : v.fStr.size ≤ 4300000) : FnC Tryz.prog 151 [.o (.d (.sl (s.map bF))), os n, kN v] (ob (lF s n v)) := by
 have hr : lF s n v = (cB v && (!decide (v.fKind = 0) && decide (v.fKind = fF n s))) := rfl
 refine ent Tryz.func151 rfl Tryz.call151 rfl (fun C => ?_); simp only [go_sem, st0, Tryz.ntmps151]
 have q0 := @decide_true; have q1 := @decide_false; refine a2I (aK v hs) (lH s n hl) ?_
 cases hv : cB v
 ·rw [hv] at hr
  simp only [go_sem, hv]
  have q0 := @decide_true; have q1 := @decide_false; have q2 := @hv; refine kZ ?_
  exact aA ⟨⟨_, rfl, by simp only [go_sem, hr, bT, decide_true, decide_false]⟩, trivial⟩
 ·rw [hv] at hr
  simp only [go_sem, hv]
  have q0 := @decide_true; have q1 := @decide_false; have q2 := @hv; refine a6c (aK v hs) (lH s n hl) ?_
  by_cases hk : v.fKind = 0
  ·simp only [hk, decide_true] at hr
   simp only [go_sem, hk, decide_true]
   have q0 := @decide_true; have q1 := @decide_false; have q2 := @hv; have q3 := @hk; refine jJ ?_
   exact aA ⟨⟨_, rfl, by simp only [go_sem, hr, bT, decide_true, decide_false]⟩, trivial⟩
  ·simp only [hk, decide_false] at hr
   simp only [go_sem, hk, decide_false]
   have q0 := @decide_true; have q1 := @decide_false; have q2 := @hv; have q3 := @hk; refine a1U (aK v hs) (lH s n hl) ?_
   exact aA ⟨⟨_, rfl, by simp only [go_sem, hr, bT, decide_true, decide_false]⟩, trivial⟩
theorem gL (s : List TField) (hl : bA s ≤ 4300000) : FnC Tryz.prog 98 [.o (.d (.sl (s.map bF)))] (ob (okSchema s)) := by
 unfold bA at hl
 refine ent Tryz.func98 rfl Tryz.call98 rfl (fun C => ?_); simp only [go_sem, st0, Tryz.ntmps98]
 refine aJ ?_
 refine bE (α := Nat) (fun k => [(3, oi k)]) (fun _ => []) (fun k => k ≤ s.length ∧ (List.range s.length).all (gD s) = ((List.range s.length).drop k).all (gD s)) (fun k => s.length - k) 0 (fun _ => ?_) ?_ ?_ (fun k hk => ?_)
 ·simp only [go_sem]
 ·simp only [go_sem]; simp
 ·simp
 ·obtain ⟨hk, hq⟩ := hk
  simp only [go_sem]
  refine aJ ?_
  refine cnd rfl (fun h => ?_) (fun h => ?_)
  ·simp only [decide_eq_true_eq, Int.ofNat_lt] at h
   have h' : k < (List.range s.length).length := by simpa using h
   have hd := List.drop_eq_getElem_cons h'
   rw [hd, List.all_cons, List.getElem_range] at hq
   have hw := dK lD s h
   have hw1 : s[k].fName.size ≤ lD s[k] := by unfold lD; omega
   have hr : gD s k = (aN s[k].fName 1 && (inB s[k].fKind 1 2 && nP TField.fName s k)) := by unfold gD; rw [List.getElem?_eq_getElem h]
   have q0 := @h; have q1 := @decide_true; have q2 := @decide_false; refine a6c (aD s[k].fName (by omega)) (aZ s[k].fKind 1 2) ?_
   cases ht : aN s[k].fName 1
   ·rw [ht] at hr
    simp only [go_sem, ht]
    have q0 := @h; have q1 := @decide_true; have q2 := @decide_false; have q3 := @ht; refine jJ ?_
    have hf : okSchema s = false := by
     unfold okSchema
     rw [hq, hr]; simp
    exact aA ⟨⟨_, rfl, by simp only [go_sem, hf]⟩, trivial⟩
   ·rw [ht] at hr
    simp only [go_sem, ht]
    have q0 := @h; have q1 := @decide_true; have q2 := @decide_false; have q3 := @ht; refine a1U (aD s[k].fName (by omega)) (aZ s[k].fKind 1 2) ?_
    cases hb : inB s[k].fKind 1 2
    ·rw [hb] at hr
     simp only [go_sem, hb]
     have q0 := @h; have q1 := @decide_true; have q2 := @decide_false; have q3 := @ht; have q4 := @hb; refine sJ ?_
     have hf : okSchema s = false := by
      unfold okSchema
      rw [hq, hr]; simp
     exact aA ⟨⟨_, rfl, by simp only [go_sem, hf]⟩, trivial⟩
    ·rw [hb] at hr
     simp only [go_sem, hb]
     have q0 := @h; have q1 := @decide_true; have q2 := @decide_false; have q3 := @ht; have q4 := @hb; refine a7H (aD s[k].fName (by omega)) (aZ s[k].fKind 1 2) ?_
     by_cases hk0 : 0 < k
     ·have hki : (0 : Int) < (k : Int) := by omega
      have hkx : (k : Int) - 1 = ((k - 1 : Nat) : Int) := by omega
      have hkl : k - 1 < s.length := by omega
      rw [jD TField.fName s k hk0 h] at hr
      simp only [go_sem, hki, hkx, hkl, decide_true]
      have q0 := @h; have q1 := @decide_true; have q2 := @decide_false; have q3 := @ht; have q4 := @hb; have q5 := @hki; have q6 := @hkx; have q7 := @hkl; refine b1E (aD s[k].fName (by omega)) (aZ s[k].fKind 1 2) ?_
      cases ho : jM (TField.fName s[k - 1]) (TField.fName s[k])
      ·rw [ho] at hr
       simp only [go_sem, ho]
       have q0 := @h; have q1 := @decide_true; have q2 := @decide_false; have q3 := @ht; have q4 := @hb; have q5 := @hki; have q6 := @hkx; have q7 := @hkl; have q8 := @ho; refine zU ?_
       have hf : okSchema s = false := by
        unfold okSchema
        rw [hq, hr]; simp
       exact aA ⟨⟨_, rfl, by simp only [go_sem, hf]⟩, trivial⟩
      ·rw [ho] at hr
       simp only [go_sem, ho]
       have q0 := @h; have q1 := @decide_true; have q2 := @decide_false; have q3 := @ht; have q4 := @hb; have q5 := @hki; have q6 := @hkx; have q7 := @hkl; have q8 := @ho; refine a7L (aD s[k].fName (by omega)) (aZ s[k].fKind 1 2) ?_
       refine aH (k + 1) ?_ ?_ ?_
       ·simp only [go_sem]; simp
       ·refine ⟨h, ?_⟩
        rw [hq, hr]; simp
       ·omega
     ·have hki : ¬ (0 : Int) < (k : Int) := by omega
      rw [rH TField.fName s k hk0] at hr
      simp only [go_sem, hki, decide_false]
      have q0 := @h; have q1 := @decide_true; have q2 := @decide_false; have q3 := @ht; have q4 := @hb; have q5 := @hki; refine a1V (aD s[k].fName (by omega)) (aZ s[k].fKind 1 2) ?_
      refine aH (k + 1) ?_ ?_ ?_
      ·simp only [go_sem]; simp
      ·refine ⟨h, ?_⟩
       rw [hq, hr]; simp
      ·omega
  ·simp only [decide_eq_false_iff_not] at h
   have e : k = s.length := by omega
   have hq' : (List.range s.length).all (gD s) = true := by
    rw [hq, List.drop_of_length_le (by simp [e])]; rfl
   have hr : okSchema s = decide ((s.length : Int) ≤ 5) := by unfold okSchema; rw [hq']; simp only [Bool.true_and]
   have q0 := @decide_true; have q1 := @decide_false; refine jN ?_
   exact aA ⟨⟨_, rfl, by simp only [go_sem, hr, bT, decide_true, decide_false]⟩, trivial⟩
theorem kE (s : List TField) (f : TFile) (hl : bA s ≤ 4300000) (hf : gY f ≤ 4300000) : FnC Tryz.prog 97 [.o (.d (.sl (s.map bF))), a0w f] (ob (fC s f)) := by
 unfold bA at hl
 unfold gY iB at hf
 refine ent Tryz.func97 rfl Tryz.call97 rfl (fun C => ?_); simp only [go_sem, st0, Tryz.ntmps97]
 refine aJ ?_
 refine bE (α := Nat) (fun k => [(5, oi k)]) (fun _ => []) (fun k => k ≤ f.fAttrs.length ∧ (List.range f.fAttrs.length).all (iI s f.fAttrs) = ((List.range f.fAttrs.length).drop k).all (iI s f.fAttrs)) (fun k => f.fAttrs.length - k) 0 (fun _ => ?_) ?_ ?_ (fun k hk => ?_)
 ·simp only [go_sem]
 ·simp only [go_sem]; simp
 ·simp
 ·obtain ⟨hk, hq⟩ := hk
  simp only [go_sem]
  refine aJ ?_
  refine cnd rfl (fun h => ?_) (fun h => ?_)
  ·simp only [decide_eq_true_eq, Int.ofNat_lt] at h
   have h' : k < (List.range f.fAttrs.length).length := by simpa using h
   have hd := List.drop_eq_getElem_cons h'
   rw [hd, List.all_cons, List.getElem_range] at hq
   have hw := dK qD f.fAttrs h
   have hw1 : f.fAttrs[k].fName.size + f.fAttrs[k].fValue.fStr.size ≤ qD f.fAttrs[k] := by unfold qD lW; omega
   have hr : iI s f.fAttrs k = (lF s f.fAttrs[k].fName f.fAttrs[k].fValue && nP TAttr.fName f.fAttrs k) := by unfold iI; rw [List.getElem?_eq_getElem h]; exact Bool.and_comm _ _
   have q0 := @h; have q1 := @decide_true; have q2 := @decide_false; refine jT (iW s f.fAttrs[k].fName f.fAttrs[k].fValue (by omega) (by omega)) ?_
   cases hm : lF s f.fAttrs[k].fName f.fAttrs[k].fValue
   ·rw [hm] at hr
    simp only [go_sem, hm]
    have q0 := @h; have q1 := @decide_true; have q2 := @decide_false; have q3 := @hm; refine jJ ?_
    have hf : fC s f = false := by
     unfold fC
     rw [hq, hr]; simp
    exact aA ⟨⟨_, rfl, by simp only [go_sem, hf]⟩, trivial⟩
   ·rw [hm] at hr
    simp only [go_sem, hm]
    have q0 := @h; have q1 := @decide_true; have q2 := @decide_false; have q3 := @hm; refine tT (iW s f.fAttrs[k].fName f.fAttrs[k].fValue (by omega) (by omega)) ?_
    by_cases hk0 : 0 < k
    ·have hki : (0 : Int) < (k : Int) := by omega
     have hkx : (k : Int) - 1 = ((k - 1 : Nat) : Int) := by omega
     have hkl : k - 1 < f.fAttrs.length := by omega
     rw [jD TAttr.fName f.fAttrs k hk0 h] at hr
     simp only [go_sem, hki, hkx, hkl, decide_true]
     have q0 := @h; have q1 := @decide_true; have q2 := @decide_false; have q3 := @hm; have q4 := @hki; have q5 := @hkx; have q6 := @hkl; refine a4O (iW s f.fAttrs[k].fName f.fAttrs[k].fValue (by omega) (by omega)) ?_
     cases ho : jM (TAttr.fName f.fAttrs[k - 1]) (TAttr.fName f.fAttrs[k])
     ·rw [ho] at hr
      simp only [go_sem, ho]
      have q0 := @h; have q1 := @decide_true; have q2 := @decide_false; have q3 := @hm; have q4 := @hki; have q5 := @hkx; have q6 := @hkl; have q7 := @ho; refine a0H ?_
      have hf : fC s f = false := by
       unfold fC
       rw [hq, hr]; simp
      exact aA ⟨⟨_, rfl, by simp only [go_sem, hf]⟩, trivial⟩
     ·rw [ho] at hr
      simp only [go_sem, ho]
      have q0 := @h; have q1 := @decide_true; have q2 := @decide_false; have q3 := @hm; have q4 := @hki; have q5 := @hkx; have q6 := @hkl; have q7 := @ho; refine a7K (iW s f.fAttrs[k].fName f.fAttrs[k].fValue (by omega) (by omega)) ?_
      refine aH (k + 1) ?_ ?_ ?_
      ·simp only [go_sem]; simp
      ·refine ⟨h, ?_⟩
       rw [hq, hr]; simp
      ·omega
    ·have hki : ¬ (0 : Int) < (k : Int) := by omega
     rw [rH TAttr.fName f.fAttrs k hk0] at hr
     simp only [go_sem, hki, decide_false]
     have q0 := @h; have q1 := @decide_true; have q2 := @decide_false; have q3 := @hm; have q4 := @hki; refine nT (iW s f.fAttrs[k].fName f.fAttrs[k].fValue (by omega) (by omega)) ?_
     refine aH (k + 1) ?_ ?_ ?_
     ·simp only [go_sem]; simp
     ·refine ⟨h, ?_⟩
      rw [hq, hr]; simp
     ·omega
  ·simp only [decide_eq_false_iff_not] at h
   have e : k = f.fAttrs.length := by omega
   have hq' : (List.range f.fAttrs.length).all (iI s f.fAttrs) = true := by
    rw [hq, List.drop_of_length_le (by simp [e])]; rfl
   have hr : fC s f = (okSchema s && (inB f.fID 1 60 && (inB f.fOwner 0 2 && inB f.fLink 0 60))) := by unfold fC; rw [hq']; simp only [Bool.true_and]; cases okSchema s <;> simp
   have q0 := @decide_true; have q1 := @decide_false; refine b5Q (aZ f.fID 1 60) (aZ f.fOwner 0 2) (aZ f.fLink 0 60) (gL s (by unfold bA; omega)) ?_
   cases h0 : okSchema s
   ·rw [h0] at hr
    simp only [go_sem, h0]
    have q0 := @decide_true; have q1 := @decide_false; have q2 := @h0; refine kZ ?_
    exact aA ⟨⟨_, rfl, by simp only [go_sem, hr, bT, decide_true, decide_false]⟩, trivial⟩
   ·rw [h0] at hr
    simp only [go_sem, h0]
    have q0 := @decide_true; have q1 := @decide_false; have q2 := @h0; refine b5R (aZ f.fID 1 60) (aZ f.fOwner 0 2) (aZ f.fLink 0 60) (gL s (by unfold bA; omega)) ?_
    cases h1 : inB f.fID 1 60
    ·rw [h1] at hr
     simp only [go_sem, h1]
     have q0 := @decide_true; have q1 := @decide_false; have q2 := @h0; have q3 := @h1; refine jJ ?_
     exact aA ⟨⟨_, rfl, by simp only [go_sem, hr, bT, decide_true, decide_false]⟩, trivial⟩
    ·rw [h1] at hr
     simp only [go_sem, h1]
     have q0 := @decide_true; have q1 := @decide_false; have q2 := @h0; have q3 := @h1; refine b1D (aZ f.fID 1 60) (aZ f.fOwner 0 2) (aZ f.fLink 0 60) (gL s (by unfold bA; omega)) ?_
     cases h2 : inB f.fOwner 0 2
     ·rw [h2] at hr
      simp only [go_sem, h2]
      have q0 := @decide_true; have q1 := @decide_false; have q2 := @h0; have q3 := @h1; have q4 := @h2; refine sJ ?_
      exact aA ⟨⟨_, rfl, by simp only [go_sem, hr, bT, decide_true, decide_false]⟩, trivial⟩
     ·rw [h2] at hr
      simp only [go_sem, h2]
      have q0 := @decide_true; have q1 := @decide_false; have q2 := @h0; have q3 := @h1; have q4 := @h2; refine b5S (aZ f.fID 1 60) (aZ f.fOwner 0 2) (aZ f.fLink 0 60) (gL s (by unfold bA; omega)) ?_
      exact aA ⟨⟨_, rfl, by simp only [go_sem, hr, bT, decide_true, decide_false]⟩, trivial⟩
theorem yR (x : TStore) (hx : fV x ≤ 4300000) : FnC Tryz.prog 54 [a4R x] (ob (dM x)) := by
 unfold fV bA jU at hx
 refine ent Tryz.func54 rfl Tryz.call54 rfl (fun C => ?_); simp only [go_sem, st0, Tryz.ntmps54]
 refine aJ ?_
 refine bE (α := Nat) (fun k => [(3, oi k)]) (fun _ => []) (fun k => k ≤ x.fFiles.length ∧ (List.range x.fFiles.length).all (iJ x) = ((List.range x.fFiles.length).drop k).all (iJ x)) (fun k => x.fFiles.length - k) 0 (fun _ => ?_) ?_ ?_ (fun k hk => ?_)
 ·simp only [go_sem]
 ·simp only [go_sem]; simp
 ·simp
 ·obtain ⟨hk, hq⟩ := hk
  simp only [go_sem]
  refine aJ ?_
  refine cnd rfl (fun h => ?_) (fun h => ?_)
  ·simp only [decide_eq_true_eq, Int.ofNat_lt] at h
   have h' : k < (List.range x.fFiles.length).length := by simpa using h
   have hd := List.drop_eq_getElem_cons h'
   rw [hd, List.all_cons, List.getElem_range] at hq
   have hw := dK gY x.fFiles h
   have hr : iJ x k = (fC x.fSchema x.fFiles[k] && (!decide (x.fNextID ≤ x.fFiles[k].fID) && a8b x.fFiles k)) := by unfold iJ; rw [List.getElem?_eq_getElem h]
   have q0 := @h; have q1 := @decide_true; have q2 := @decide_false; refine jT (kE x.fSchema x.fFiles[k] (by unfold bA; omega) (by omega)) ?_
   cases hm : fC x.fSchema x.fFiles[k]
   ·rw [hm] at hr
    simp only [go_sem, hm]
    have q0 := @h; have q1 := @decide_true; have q2 := @decide_false; have q3 := @hm; refine jJ ?_
    have hf : dM x = false := by
     unfold dM
     rw [hq, hr]; simp
    exact aA ⟨⟨_, rfl, by simp only [go_sem, hf]⟩, trivial⟩
   ·rw [hm] at hr
    simp only [go_sem, hm]
    have q0 := @h; have q1 := @decide_true; have q2 := @decide_false; have q3 := @hm; refine tT (kE x.fSchema x.fFiles[k] (by unfold bA; omega) (by omega)) ?_
    by_cases hn : x.fNextID ≤ x.fFiles[k].fID
    ·simp only [hn, decide_true] at hr
     simp only [go_sem, hn, decide_true]
     have q0 := @h; have q1 := @decide_true; have q2 := @decide_false; have q3 := @hm; have q4 := @hn; refine sJ ?_
     have hf : dM x = false := by
      unfold dM
      rw [hq, hr]; simp
     exact aA ⟨⟨_, rfl, by simp only [go_sem, hf]⟩, trivial⟩
    ·simp only [hn, decide_false] at hr
     simp only [go_sem, hn, decide_false]
     have q0 := @h; have q1 := @decide_true; have q2 := @decide_false; have q3 := @hm; have q4 := @hn; refine nT (kE x.fSchema x.fFiles[k] (by unfold bA; omega) (by omega)) ?_
     by_cases hk0 : 0 < k
     ·have hki : (0 : Int) < (k : Int) := by omega
      have hkx : (k : Int) - 1 = ((k - 1 : Nat) : Int) := by omega
      have hkl : k - 1 < x.fFiles.length := by omega
      rw [a6z x.fFiles k hk0 h] at hr
      simp only [go_sem, hki, hkx, hkl, decide_true]
      have q0 := @h; have q1 := @decide_true; have q2 := @decide_false; have q3 := @hm; have q4 := @hn; have q5 := @hki; have q6 := @hkx; have q7 := @hkl; refine a7K (kE x.fSchema x.fFiles[k] (by unfold bA; omega) (by omega)) ?_
      by_cases ho : x.fFiles[k].fID ≤ x.fFiles[k - 1].fID
      ·simp only [ho, decide_true] at hr
       simp only [go_sem, ho, decide_true]
       have q0 := @h; have q1 := @decide_true; have q2 := @decide_false; have q3 := @hm; have q4 := @hn; have q5 := @hki; have q6 := @hkx; have q7 := @hkl; have q8 := @ho; refine zU ?_
       have hf : dM x = false := by
        unfold dM
        rw [hq, hr]; simp
       exact aA ⟨⟨_, rfl, by simp only [go_sem, hf]⟩, trivial⟩
      ·simp only [ho, decide_false] at hr
       simp only [go_sem, ho, decide_false]
       have q0 := @h; have q1 := @decide_true; have q2 := @decide_false; have q3 := @hm; have q4 := @hn; have q5 := @hki; have q6 := @hkx; have q7 := @hkl; have q8 := @ho; refine b0g (kE x.fSchema x.fFiles[k] (by unfold bA; omega) (by omega)) ?_
       refine aH (k + 1) ?_ ?_ ?_
       ·simp only [go_sem]; simp
       ·refine ⟨h, ?_⟩
        rw [hq, hr]; simp
       ·omega
     ·have hki : ¬ (0 : Int) < (k : Int) := by omega
      rw [b1Z x.fFiles k hk0] at hr
      simp only [go_sem, hki, decide_false]
      have q0 := @h; have q1 := @decide_true; have q2 := @decide_false; have q3 := @hm; have q4 := @hn; have q5 := @hki; refine sK (kE x.fSchema x.fFiles[k] (by unfold bA; omega) (by omega)) ?_
      refine aH (k + 1) ?_ ?_ ?_
      ·simp only [go_sem]; simp
      ·refine ⟨h, ?_⟩
       rw [hq, hr]; simp
      ·omega
  ·simp only [decide_eq_false_iff_not] at h
   have e : k = x.fFiles.length := by omega
   have hq' : (List.range x.fFiles.length).all (iJ x) = true := by
    rw [hq, List.drop_of_length_le (by simp [e])]; rfl
   have hr : dM x = (okSchema x.fSchema && (decide ((x.fFiles.length : Int) ≤ 12) && inB x.fNextID 1 61)) := by unfold dM; rw [hq']; simp only [Bool.true_and]
   have q0 := @decide_true; have q1 := @decide_false; refine a2I (gL x.fSchema (by unfold bA; omega)) (aZ x.fNextID 1 61) ?_
   cases h0 : okSchema x.fSchema
   ·rw [h0] at hr
    simp only [go_sem, h0]
    have q0 := @decide_true; have q1 := @decide_false; have q2 := @h0; refine kZ ?_
    exact aA ⟨⟨_, rfl, by simp only [go_sem, hr, bT, decide_true, decide_false]⟩, trivial⟩
   ·rw [h0] at hr
    simp only [go_sem, h0]
    have q0 := @decide_true; have q1 := @decide_false; have q2 := @h0; refine a6c (gL x.fSchema (by unfold bA; omega)) (aZ x.fNextID 1 61) ?_
    by_cases h1 : (x.fFiles.length : Int) ≤ 12
    ·simp only [h1, decide_true] at hr
     simp only [go_sem, h1, decide_true]
     have q0 := @decide_true; have q1 := @decide_false; have q2 := @h0; have q3 := @h1; refine a1U (gL x.fSchema (by unfold bA; omega)) (aZ x.fNextID 1 61) ?_
     exact aA ⟨⟨_, rfl, by simp only [go_sem, hr, bT, decide_true, decide_false]⟩, trivial⟩
    ·simp only [h1, decide_false] at hr
     simp only [go_sem, h1, decide_false]
     have q0 := @decide_true; have q1 := @decide_false; have q2 := @h0; have q3 := @h1; refine jJ ?_
     exact aA ⟨⟨_, rfl, by simp only [go_sem, hr, bT, decide_true, decide_false]⟩, trivial⟩
theorem yS (d : List TDir) (hd : iT d ≤ 4300000) : FnC Tryz.prog 153 [.o (.d (.sl (d.map dG)))] (ob (dH d)) := by
 unfold iT at hd
 refine ent Tryz.func153 rfl Tryz.call153 rfl (fun C => ?_); simp only [go_sem, st0, Tryz.ntmps153]
 refine aJ ?_
 refine bE (α := Nat) (fun k => [(3, oi k)]) (fun _ => []) (fun k => k ≤ d.length ∧ (List.range d.length).all (jE d) = ((List.range d.length).drop k).all (jE d)) (fun k => d.length - k) 0 (fun _ => ?_) ?_ ?_ (fun k hk => ?_)
 ·simp only [go_sem]
 ·simp only [go_sem]; simp
 ·simp
 ·obtain ⟨hk, hq⟩ := hk
  simp only [go_sem]
  refine aJ ?_
  refine cnd rfl (fun h => ?_) (fun h => ?_)
  ·simp only [decide_eq_true_eq, Int.ofNat_lt] at h
   have h' : k < (List.range d.length).length := by simpa using h
   have hd := List.drop_eq_getElem_cons h'
   rw [hd, List.all_cons, List.getElem_range] at hq
   have hw := dK lS d h
   have hw1 : d[k].fName.size + wNodeS d[k].fQuery ≤ lS d[k] := by unfold lS; omega
   have hr : jE d k = (aN d[k].fName 6 && (okQ d[k].fQuery && nP TDir.fName d k)) := by unfold jE; rw [List.getElem?_eq_getElem h, Bool.and_comm (okQ d[k].fQuery)]
   have q0 := @h; have q1 := @decide_true; have q2 := @decide_false; refine a6c (bC d[k].fName (by omega)) (bS d[k].fQuery (by omega)) ?_
   cases ht : aN d[k].fName 6
   ·rw [ht] at hr
    simp only [go_sem, ht]
    have q0 := @h; have q1 := @decide_true; have q2 := @decide_false; have q3 := @ht; refine jJ ?_
    have hf : dH d = false := by
     unfold dH
     rw [hq, hr]; simp
    exact aA ⟨⟨_, rfl, by simp only [go_sem, hf]⟩, trivial⟩
   ·rw [ht] at hr
    simp only [go_sem, ht]
    have q0 := @h; have q1 := @decide_true; have q2 := @decide_false; have q3 := @ht; refine a1U (bC d[k].fName (by omega)) (bS d[k].fQuery (by omega)) ?_
    cases hv : okQ d[k].fQuery
    ·rw [hv] at hr
     simp only [go_sem, hv]
     have q0 := @h; have q1 := @decide_true; have q2 := @decide_false; have q3 := @ht; have q4 := @hv; refine sJ ?_
     have hf : dH d = false := by
      unfold dH
      rw [hq, hr]; simp
     exact aA ⟨⟨_, rfl, by simp only [go_sem, hf]⟩, trivial⟩
    ·rw [hv] at hr
     simp only [go_sem, hv]
     have q0 := @h; have q1 := @decide_true; have q2 := @decide_false; have q3 := @ht; have q4 := @hv; refine a7H (bC d[k].fName (by omega)) (bS d[k].fQuery (by omega)) ?_
     by_cases hk0 : 0 < k
     ·have hki : (0 : Int) < (k : Int) := by omega
      have hkx : (k : Int) - 1 = ((k - 1 : Nat) : Int) := by omega
      have hkl : k - 1 < d.length := by omega
      rw [jD TDir.fName d k hk0 h] at hr
      simp only [go_sem, hki, hkx, hkl, decide_true]
      have q0 := @h; have q1 := @decide_true; have q2 := @decide_false; have q3 := @ht; have q4 := @hv; have q5 := @hki; have q6 := @hkx; have q7 := @hkl; refine b1E (bC d[k].fName (by omega)) (bS d[k].fQuery (by omega)) ?_
      cases ho : jM (TDir.fName d[k - 1]) (TDir.fName d[k])
      ·rw [ho] at hr
       simp only [go_sem, ho]
       have q0 := @h; have q1 := @decide_true; have q2 := @decide_false; have q3 := @ht; have q4 := @hv; have q5 := @hki; have q6 := @hkx; have q7 := @hkl; have q8 := @ho; refine zU ?_
       have hf : dH d = false := by
        unfold dH
        rw [hq, hr]; simp
       exact aA ⟨⟨_, rfl, by simp only [go_sem, hf]⟩, trivial⟩
      ·rw [ho] at hr
       simp only [go_sem, ho]
       have q0 := @h; have q1 := @decide_true; have q2 := @decide_false; have q3 := @ht; have q4 := @hv; have q5 := @hki; have q6 := @hkx; have q7 := @hkl; have q8 := @ho; refine a7L (bC d[k].fName (by omega)) (bS d[k].fQuery (by omega)) ?_
       refine aH (k + 1) ?_ ?_ ?_
       ·simp only [go_sem]; simp
       ·refine ⟨h, ?_⟩
        rw [hq, hr]; simp
       ·omega
     ·have hki : ¬ (0 : Int) < (k : Int) := by omega
      rw [rH TDir.fName d k hk0] at hr
      simp only [go_sem, hki, decide_false]
      have q0 := @h; have q1 := @decide_true; have q2 := @decide_false; have q3 := @ht; have q4 := @hv; have q5 := @hki; refine a1V (bC d[k].fName (by omega)) (bS d[k].fQuery (by omega)) ?_
      refine aH (k + 1) ?_ ?_ ?_
      ·simp only [go_sem]; simp
      ·refine ⟨h, ?_⟩
       rw [hq, hr]; simp
      ·omega
  ·simp only [decide_eq_false_iff_not] at h
   have e : k = d.length := by omega
   have hq' : (List.range d.length).all (jE d) = true := by
    rw [hq, List.drop_of_length_le (by simp [e])]; rfl
   have hr : dH d = decide ((d.length : Int) ≤ 5) := by unfold dH; rw [hq']; simp only [Bool.true_and]
   have q0 := @decide_true; have q1 := @decide_false; refine jN ?_
   exact aA ⟨⟨_, rfl, by simp only [go_sem, hr, bT, decide_true, decide_false]⟩, trivial⟩
end Go.Proofs.YtgpoopjfkplilaaGreatDoor
end
section
namespace Go.Proofs.YtgpoopjfkplilaaGreatDoor
open Go Go.Sx Go.RowKit Go.Proofs
def b7E (l : List Int) : List Int := l.mergeSort fun x y => decide (x ≤ y)
theorem lX {α : Type} [Inhabited α] [DecidableEq α] (d : Array α) : ∀ m, (Lib.compactUpTo d m).length ≤ m
 | 0 => by simp [Lib.compactUpTo]
 | m + 1 => by
  have := lX d m
  rw [Lib.compactUpTo_succ, List.length_append]
  split <;> simp <;> omega
def b7F (l : List Int) : List Int := Lib.compact l
def bl (s : ByteArray) : List UInt8 := s.data.toList
def lb (l : List UInt8) : ByteArray := ⟨l.toArray⟩
theorem b4b (l : List UInt8) : bl (lb l) = l := rfl
theorem b2e (s : ByteArray) : lb (bl s) = s := by cases s; simp [lb, bl]
def vT (l : List (List UInt8)) : List (List UInt8) := l.mergeSort fun x y => decide (x ≤ y)
def uF (l : List ByteArray) : List ByteArray := (vT (l.map bl)).map lb
def a6C (l : List ByteArray) : List ByteArray := (Lib.compact (l.map bl)).map lb
theorem a0d (l : List ByteArray) : (uF l).length = l.length := by simp [uF, vT, List.length_mergeSort]
theorem a4Y (l : List ByteArray) : l.map bD = vB Go.Proofs.encStr (l.map bl) := by
 simp only [vB, List.map_map]
 refine List.map_congr_left fun s _ => ?_
 have h := b2e s
 simp only [lb] at h
 simp only [Function.comp, bD, Go.Proofs.encStr, h]
theorem a9b (l : List (List UInt8)) : (l.map lb).map bD = vB Go.Proofs.encStr l := by
 rw [a4Y, List.map_map]
 congr 1
 simp [Function.comp_def, b4b]
theorem vU (x : List UInt8) : scalar (Go.Proofs.encStr x) = true := rfl
theorem a2k (l : List ByteArray) (hl : l.length ≤ 4611686018427387903) : FnI Tryz.prog 264 9 1 (l.map bD) [] true ((uF l).map bD) := by
 refine ⟨Tryz.call264, fun V w y S vs htab hm hrow hnd hlt hargs => ?_⟩
 have hvs : vs = [] := by have := hargs.1; simpa using this
 subst hvs
 rw [uF, a9b]
 rw [a4Y] at hrow
 rcases scal_down (e := Go.Proofs.encStr) hrow with ⟨⟨ao, rfl⟩, hn, rfl⟩ | ⟨b, cap, c, rfl, h1, h2, h3, h4, h5, h6, rfl⟩
 ·refine (Any.slices_Sort_string_none Tryz.laysSortStr ao 0 w).mono ?_
  rintro e w' ⟨rfl, rfl⟩
  exact ⟨_, rfl, fun _ => rfl, ⟨⟨rfl, rfl, rfl, Nat.le_refl _, fun _ _ _ => rfl⟩, [], (by rw [hn] at hrow ⊢; simpa [vT] using hrow), hnd, fun b hb => .inl hb, fun _ => rfl⟩⟩
 ·have hb : b < w.heap.size := (Array.getElem?_eq_some_iff.1 h3).1
  refine (Any.slices_Sort_string Tryz.laysSortStr b 0 cap (l.map bl) w h5 hb (by simp; omega)).mono ?_
  rintro e w' ⟨rfl, n, os, rfl⟩
  have hsl : (vT (l.map bl)).length = (l.map bl).length := by simp [vT, List.length_mergeSort]
  have hup := a8M (e := Go.Proofs.encStr) (l := vT (l.map bl)) (d := (vT (l.map bl)).toArray) vU h3 h4 h2 (by simp only [List.size_toArray, hsl]; exact h1) rfl (List.prefix_refl _) h6 (n := n) (os := os)
  rw [hsl] at hup
  exact ⟨_, rfl, fun _ => rfl, ⟨hup.2, [b], hup.1, hnd, fun b hb => .inl hb, fun _ => rfl⟩⟩
theorem vV (l : List ByteArray) (hl : l.length ≤ 4611686018427387903) : FnI Tryz.prog 265 9 1 (l.map bD) [] false ((a6C l).map bD) := by
 refine ⟨Tryz.call265, fun V w y S vs htab hm hrow hnd hlt hargs => ?_⟩
 have hvs : vs = [] := by have := hargs.1; simpa using this
 subst hvs
 rw [a6C, a9b]
 rw [a4Y] at hrow
 rcases scal_down (e := Go.Proofs.encStr) hrow with ⟨⟨ao, rfl⟩, hn, rfl⟩ | ⟨b, cap, c, rfl, h1, h2, h3, h4, h5, h6, rfl⟩
 ·refine (Any.slices_Compact_string_empty Tryz.laysCompactStr ao 0 w).mono ?_
  rintro e w' ⟨rfl, rfl⟩
  exact ⟨_, rfl, fun h => (by cases h), ⟨⟨rfl, rfl, rfl, Nat.le_refl _, fun _ _ _ => rfl⟩, [], (by rw [hn] at hrow ⊢; exact hrow), hnd, fun b hb => .inl hb, fun _ => rfl⟩⟩
 ·have hb : b < w.heap.size := (Array.getElem?_eq_some_iff.1 h3).1
  refine (Any.slices_Compact_string Tryz.laysCompactStr b 0 cap (l.map bl) w h5 (by simp; omega) h1).mono ?_
  rintro e w' ⟨rfl, n, rfl⟩
  have hle : (Lib.compact (l.map bl)).length ≤ (l.map bl).length := lX _ _
  have hup := a8M (e := Go.Proofs.encStr) (l := Lib.compact (l.map bl)) (d := (Lib.compact (l.map bl) ++ List.replicate ((l.map bl).length - (Lib.compact (l.map bl)).length) []).toArray) (w' := Sort.putRow Go.Proofs.encStr (Sort.ahead w n) b 0 (Lib.compact (l.map bl) ++ List.replicate ((l.map bl).length - (Lib.compact (l.map bl)).length) []).toArray) vU h3 h4 h2 (by simp only [List.size_toArray, List.length_append, List.length_replicate]; omega) (by rw [Sort.grow_empty]) (by simp) h6 (n := n) (os := #[])
  exact ⟨_, rfl, fun h => (by cases h), ⟨hup.2, [b], hup.1, hnd, fun b hb => .inl hb, fun _ => rfl⟩⟩
end Go.Proofs.YtgpoopjfkplilaaGreatDoor
end
