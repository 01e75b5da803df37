/- Joined texts. -/
import Derived.Test.YtddimbdeggomaaaGreatZ11
import Derived.Ground.NamesProg
import Derived.Ground.Names2Prog
import Derived.Shelf.Sort.Plain
import Derived.Shelf.Slices.In.SortNone
import Derived.Shelf.Slices.CompactI
import Derived.Shelf.Slices.CompactS
import Derived.Test.YtddimbdeggomaaaGreatProg
set_option linter.all false
section
set_option maxRecDepth 100000
set_option maxHeartbeats 4000000
namespace Go.Proofs.YtddimbdeggomaaaGreat
open Go Go.Sx Go.RowKit Go.Proofs
def ordAt {α : Type} (g : α → ByteArray) (l : List α) (k : Nat) : Bool := decide (k = 0) || (match l[k - 1]?, l[k]? with
 | some p, some x => strLt (g p) (g x)
 | _, _ => true)
theorem ordAt_0 {α : Type} (g : α → ByteArray) (l : List α) (k : Nat) (h : ¬ 0 < k) : ordAt g l k = true := by
 have e : k = 0 := by omega
 simp [ordAt, e]
theorem ordAt_pos {α : Type} (g : α → ByteArray) (l : List α) (k : Nat) (h : 0 < k) (hl : k < l.length) : ordAt g l k = strLt (g (l[k - 1]'(by omega))) (g l[k]) := by
 have h1 : k - 1 < l.length := by omega
 have e : ¬ k = 0 := by omega
 simp [ordAt, e, List.getElem?_eq_getElem h1, List.getElem?_eq_getElem hl]
def upAt (l : List TFile) (k : Nat) : Bool := decide (k = 0) || (match l[k - 1]?, l[k]? with
 | some p, some x => !decide (x.fID ≤ p.fID)
 | _, _ => true)
theorem upAt_0 (l : List TFile) (k : Nat) (h : ¬ 0 < k) : upAt l k = true := by
 have e : k = 0 := by omega
 simp [upAt, e]
theorem upAt_pos (l : List TFile) (k : Nat) (h : 0 < k) (hl : k < l.length) : upAt l k = !decide (l[k].fID ≤ (l[k - 1]'(by omega)).fID) := by
 have h1 : k - 1 < l.length := by omega
 have e : ¬ k = 0 := by omega
 simp only [upAt, e, decide_false, Bool.false_or, List.getElem?_eq_getElem h1, List.getElem?_eq_getElem hl]
def fieldKind (s : ByteArray) : List TField → Int
 | [] => 0
 | f :: l => if f.fName = s then f.fKind else fieldKind s l
theorem fieldKind_drop (s : ByteArray) (l : List TField) (k : Nat) (h : k < l.length) : fieldKind s (l.drop k) = if l[k].fName = s then l[k].fKind else fieldKind s (l.drop (k + 1)) := by
 rw [List.drop_eq_getElem_cons h]; rfl
def okFieldAt (s : List TField) (k : Nat) : Bool := match s[k]? with
 | none => true
 | some f => isText f.fName 1 && (inB f.fKind 1 2 && ordAt TField.fName s k)
def okSchema (s : List TField) : Bool := (List.range s.length).all (okFieldAt s) && decide ((s.length : Int) ≤ 5)
def matchS (s : List TField) (n : ByteArray) (v : TValue) : Bool := okVal v && (!decide (v.fKind = 0) && decide (v.fKind = fieldKind n s))
def okAttrAt (s : List TField) (l : List TAttr) (k : Nat) : Bool := match l[k]? with
 | none => true
 | some a => ordAt TAttr.fName l k && matchS s a.fName a.fValue
def okFile (s : List TField) (f : TFile) : Bool := (List.range f.fAttrs.length).all (okAttrAt s f.fAttrs) && (inB f.fID 1 60 && (inB f.fOwner 0 2 && (inB f.fLink 0 60 && okSchema s)))
def okFileAt (x : TStore) (k : Nat) : Bool := match x.fFiles[k]? with
 | none => true
 | some f => okFile x.fSchema f && (!decide (x.fNextID ≤ f.fID) && upAt x.fFiles k)
def okStore (x : TStore) : Bool := (List.range x.fFiles.length).all (okFileAt x) && (okSchema x.fSchema && (decide ((x.fFiles.length : Int) ≤ 12) && inB x.fNextID 1 61))
def okDirAt (d : List TDir) (k : Nat) : Bool := match d[k]? with
 | none => true
 | some x => isText x.fName 6 && (ordAt TDir.fName d k && okQ x.fQuery)
def okDirs (d : List TDir) : Bool := (List.range d.length).all (okDirAt d) && decide ((d.length : Int) ≤ 5)
theorem implFieldKind_ok (l : List TField) (s : ByteArray) (hl : l.length ≤ 4300000) : FnC Tryz.prog 294 [.o (.d (.sl (l.map encField))), os s] (oi (fieldKind s l)) := by
 generalize hg : fieldKind s l = res
 refine ent Tryz.func294 rfl Tryz.call294 rfl (fun C => ?_); simp only [go_sem, st0, Tryz.ntmps294]
 refine w0_0 ?_
 refine WP_lp (α := Nat) (fun k => [(9, oi k)]) (fun k => []) (fun k => k ≤ l.length ∧ fieldKind s (l.drop k) = res) (fun k => l.length - k) 0 (fun _ => ?_) ?_ ?_ (fun k hk => ?_)
 ·simp only [go_sem]
 ·simp only [go_sem]; simp
 ·simp [hg]
 ·simp only [go_sem]
  obtain ⟨hk, hq⟩ := hk
  refine w0_0 ?_
  refine cnd rfl (fun h1 => ?_) (fun h1 => ?_)
  ·simp only [decide_eq_true_eq, Int.ofNat_lt] at h1
   rw [fieldKind_drop s l k h1] at hq
   by_cases hv : l[k].fName = s
   ·rw [if_pos hv] at hq
    have q0 := @h1; have q1 := @hv; have q2 := @decide_true; refine w3_0 ?_
    exact retK_ret ⟨⟨_, rfl, by simp only [go_sem, hq]⟩, trivial⟩
   ·rw [if_neg hv] at hq
    have q0 := @h1; have q1 := @hv; have q2 := @decide_false; refine w3_0 ?_
    refine L_next (k + 1) ?_ ?_ ?_
    ·simp only [go_sem]; simp
    ·exact ⟨by omega, hq⟩
    ·omega
  ·simp only [decide_eq_false_iff_not] at h1
   have e : k = l.length := by omega
   subst e
   rw [List.drop_length] at hq
   have hn : res = 0 := hq.symm
   subst hn
   refine w0_0 ?_
   exact retK_ret ⟨⟨_, rfl, by simp only [go_sem]⟩, trivial⟩
theorem implMatches_ok (s : List TField) (n : ByteArray) (v : TValue) (hl : s.length ≤ 4300000) (hs : v.fStr.size ≤ 4300000) : FnC Tryz.prog 252 [.o (.d (.sl (s.map encField))), os n, gValue v] (ob (matchS s n v)) := by
 have hr : matchS s n v = (okVal v && (!decide (v.fKind = 0) && decide (v.fKind = fieldKind n s))) := rfl
 refine ent Tryz.func252 rfl Tryz.call252 rfl (fun C => ?_); simp only [go_sem, st0, Tryz.ntmps252]
 have q0 := @decide_true; have q1 := @decide_false; refine w2_2 (implIsValidValue_ok v hs) (implFieldKind_ok s n hl) ?_
 cases hv : okVal v
 ·rw [hv] at hr
  simp only [go_sem, hv]
  have q0 := @decide_true; have q1 := @decide_false; have q2 := @hv; refine w3_0 ?_
  exact retK_ret ⟨⟨_, rfl, by simp only [go_sem, hr, Bool.and_true, Bool.and_false, Bool.true_and, Bool.false_and, Bool.not_true, Bool.not_false, decide_true, decide_false]⟩, trivial⟩
 ·rw [hv] at hr
  simp only [go_sem, hv]
  have q0 := @decide_true; have q1 := @decide_false; have q2 := @hv; refine w3_2 (implIsValidValue_ok v hs) (implFieldKind_ok s n hl) ?_
  by_cases hk : v.fKind = 0
  ·simp only [hk, decide_true] at hr
   simp only [go_sem, hk, decide_true]
   have q0 := @decide_true; have q1 := @decide_false; have q2 := @hv; have q3 := @hk; refine w4_0 ?_
   exact retK_ret ⟨⟨_, rfl, by simp only [go_sem, hr, Bool.and_true, Bool.and_false, Bool.true_and, Bool.false_and, Bool.not_true, Bool.not_false, decide_true, decide_false]⟩, trivial⟩
  ·simp only [hk, decide_false] at hr
   simp only [go_sem, hk, decide_false]
   have q0 := @decide_true; have q1 := @decide_false; have q2 := @hv; have q3 := @hk; refine w4_2 (implIsValidValue_ok v hs) (implFieldKind_ok s n hl) ?_
   exact retK_ret ⟨⟨_, rfl, by simp only [go_sem, hr, Bool.and_true, Bool.and_false, Bool.true_and, Bool.false_and, Bool.not_true, Bool.not_false, decide_true, decide_false]⟩, trivial⟩
theorem implSchema_ok (s : List TField) (hl : wFieldS s ≤ 4300000) : FnC Tryz.prog 243 [.o (.d (.sl (s.map encField)))] (ob (okSchema s)) := by
 unfold wFieldS at hl
 refine ent Tryz.func243 rfl Tryz.call243 rfl (fun C => ?_); simp only [go_sem, st0, Tryz.ntmps243]
 refine w0_0 ?_
 refine WP_lp (α := Nat) (fun k => [(7, oi k)]) (fun _ => []) (fun k => k ≤ s.length ∧ (List.range s.length).all (okFieldAt s) = ((List.range s.length).drop k).all (okFieldAt s)) (fun k => s.length - k) 0 (fun _ => ?_) ?_ ?_ (fun k hk => ?_)
 ·simp only [go_sem]
 ·simp only [go_sem]; simp
 ·simp
 ·obtain ⟨hk, hq⟩ := hk
  simp only [go_sem]
  refine w0_0 ?_
  refine cnd rfl (fun h => ?_) (fun h => ?_)
  ·simp only [decide_eq_true_eq, Int.ofNat_lt] at h
   have h' : k < (List.range s.length).length := by simpa using h
   have hd := List.drop_eq_getElem_cons h'
   rw [hd, List.all_cons, List.getElem_range] at hq
   have hw := wsum_get wField s h
   have hw1 : s[k].fName.size ≤ wField s[k] := by unfold wField; omega
   have hr : okFieldAt s k = (isText s[k].fName 1 && (inB s[k].fKind 1 2 && ordAt TField.fName s k)) := by unfold okFieldAt; rw [List.getElem?_eq_getElem h]
   have q0 := @h; have q1 := @decide_true; have q2 := @decide_false; refine w3_1 (implIsValidAttrName_ok s[k].fName) ?_
   cases ht : isText s[k].fName 1
   ·rw [ht] at hr
    simp only [go_sem, ht]
    have q0 := @h; have q1 := @decide_true; have q2 := @decide_false; have q3 := @ht; refine w4_0 ?_
    have hf : okSchema s = false := by
     unfold okSchema
     rw [hq, hr]; simp
    exact retK_ret ⟨⟨_, rfl, by simp only [go_sem, hf]⟩, trivial⟩
   ·rw [ht] at hr
    simp only [go_sem, ht]
    have q0 := @h; have q1 := @decide_true; have q2 := @decide_false; have q3 := @ht; refine w4_1 (implIsValidAttrName_ok s[k].fName) ?_
    cases hb : inB s[k].fKind 1 2
    ·rw [hb] at hr
     have hb2 : ¬ (1 ≤ s[k].fKind ∧ s[k].fKind ≤ 2) := by intro hx; simp [inB, hx.1, hx.2] at hb
     have k1 : ¬ s[k].fKind = 1 := by omega
     have k2 : ¬ s[k].fKind = 2 := by omega
     simp only [go_sem, k1, k2, decide_false]
     have q0 := @h; have q1 := @decide_true; have q2 := @decide_false; have q3 := @ht; have q4 := @k1; have q5 := @k2; refine w6_0 ?_
     have hf : okSchema s = false := by
      unfold okSchema
      rw [hq, hr]; simp
     exact retK_ret ⟨⟨_, rfl, by simp only [go_sem, hf]⟩, trivial⟩
    ·rw [hb] at hr
     have hb2 : 1 ≤ s[k].fKind ∧ s[k].fKind ≤ 2 := by simpa [inB] using hb
     by_cases k1 : s[k].fKind = 1
     ·simp only [go_sem, k1, decide_true]
      have q0 := @h; have q1 := @decide_true; have q2 := @decide_false; have q3 := @ht; have q4 := @k1; refine w5_1 (implIsValidAttrName_ok s[k].fName) ?_
      by_cases hk0 : 0 < k
      ·have hki : (0 : Int) < (k : Int) := by omega
       have hkx : (k : Int) - 1 = ((k - 1 : Nat) : Int) := by omega
       have hkl : k - 1 < s.length := by omega
       rw [ordAt_pos TField.fName s k hk0 h] at hr
       simp only [go_sem, hki, hkx, hkl, decide_true]
       have q0 := @h; have q1 := @decide_true; have q2 := @decide_false; have q3 := @ht; have q4 := @k1; have q5 := @hki; have q6 := @hkx; have q7 := @hkl; refine w8_1 (implIsValidAttrName_ok s[k].fName) ?_
       cases ho : strLt (TField.fName s[k - 1]) (TField.fName s[k])
       ·rw [ho] at hr
        simp only [go_sem, ho]
        have q0 := @h; have q1 := @decide_true; have q2 := @decide_false; have q3 := @ht; have q4 := @k1; have q5 := @hki; have q6 := @hkx; have q7 := @hkl; have q8 := @ho; refine w9_0 ?_
        have hf : okSchema s = false := by
         unfold okSchema
         rw [hq, hr]; simp
        exact retK_ret ⟨⟨_, rfl, by simp only [go_sem, hf]⟩, trivial⟩
       ·rw [ho] at hr
        simp only [go_sem, ho]
        have q0 := @h; have q1 := @decide_true; have q2 := @decide_false; have q3 := @ht; have q4 := @k1; have q5 := @hki; have q6 := @hkx; have q7 := @hkl; have q8 := @ho; refine w9_1 (implIsValidAttrName_ok s[k].fName) ?_
        refine L_next (k + 1) ?_ ?_ ?_
        ·simp only [go_sem]; simp
        ·refine ⟨h, ?_⟩
         rw [hq, hr]; simp
        ·omega
      ·have hki : ¬ (0 : Int) < (k : Int) := by omega
       rw [ordAt_0 TField.fName s k hk0] at hr
       simp only [go_sem, hki, decide_false]
       have q0 := @h; have q1 := @decide_true; have q2 := @decide_false; have q3 := @ht; have q4 := @k1; have q5 := @hki; refine w6_1 (implIsValidAttrName_ok s[k].fName) ?_
       refine L_next (k + 1) ?_ ?_ ?_
       ·simp only [go_sem]; simp
       ·refine ⟨h, ?_⟩
        rw [hq, hr]; simp
       ·omega
     ·have k2 : s[k].fKind = 2 := by omega
      simp only [go_sem, k1, k2, decide_true, decide_false]
      have q0 := @h; have q1 := @decide_true; have q2 := @decide_false; have q3 := @ht; have q4 := @k1; have q5 := @k2; refine w6_1 (implIsValidAttrName_ok s[k].fName) ?_
      by_cases hk0 : 0 < k
      ·have hki : (0 : Int) < (k : Int) := by omega
       have hkx : (k : Int) - 1 = ((k - 1 : Nat) : Int) := by omega
       have hkl : k - 1 < s.length := by omega
       rw [ordAt_pos TField.fName s k hk0 h] at hr
       simp only [go_sem, hki, hkx, hkl, decide_true]
       have q0 := @h; have q1 := @decide_true; have q2 := @decide_false; have q3 := @ht; have q4 := @k1; have q5 := @k2; have q6 := @hki; have q7 := @hkx; have q8 := @hkl; refine w9_1 (implIsValidAttrName_ok s[k].fName) ?_
       cases ho : strLt (TField.fName s[k - 1]) (TField.fName s[k])
       ·rw [ho] at hr
        simp only [go_sem, ho]
        have q0 := @h; have q1 := @decide_true; have q2 := @decide_false; have q3 := @ht; have q4 := @k1; have q5 := @k2; have q6 := @hki; have q7 := @hkx; have q8 := @hkl; have q9 := @ho; refine w10_0 ?_
        have hf : okSchema s = false := by
         unfold okSchema
         rw [hq, hr]; simp
        exact retK_ret ⟨⟨_, rfl, by simp only [go_sem, hf]⟩, trivial⟩
       ·rw [ho] at hr
        simp only [go_sem, ho]
        have q0 := @h; have q1 := @decide_true; have q2 := @decide_false; have q3 := @ht; have q4 := @k1; have q5 := @k2; have q6 := @hki; have q7 := @hkx; have q8 := @hkl; have q9 := @ho; refine w10_1 (implIsValidAttrName_ok s[k].fName) ?_
        refine L_next (k + 1) ?_ ?_ ?_
        ·simp only [go_sem]; simp
        ·refine ⟨h, ?_⟩
         rw [hq, hr]; simp
        ·omega
      ·have hki : ¬ (0 : Int) < (k : Int) := by omega
       rw [ordAt_0 TField.fName s k hk0] at hr
       simp only [go_sem, hki, decide_false]
       have q0 := @h; have q1 := @decide_true; have q2 := @decide_false; have q3 := @ht; have q4 := @k1; have q5 := @k2; have q6 := @hki; refine w7_1 (implIsValidAttrName_ok s[k].fName) ?_
       refine L_next (k + 1) ?_ ?_ ?_
       ·simp only [go_sem]; simp
       ·refine ⟨h, ?_⟩
        rw [hq, hr]; simp
       ·omega
  ·simp only [decide_eq_false_iff_not] at h
   have e : k = s.length := by omega
   have hq' : (List.range s.length).all (okFieldAt s) = true := by
    rw [hq, List.drop_of_length_le (by simp [e])]; rfl
   have hr : okSchema s = decide ((s.length : Int) ≤ 5) := by unfold okSchema; rw [hq']; simp only [Bool.true_and]
   have q0 := @decide_true; have q1 := @decide_false; refine w2_0 ?_
   exact retK_ret ⟨⟨_, rfl, by simp only [go_sem, hr, Bool.and_true, Bool.and_false, Bool.true_and, Bool.false_and, Bool.not_true, Bool.not_false, decide_true, decide_false]⟩, trivial⟩
theorem isUser_ok (n : Int) : FnC Tryz.prog 151 [oi n] (ob (inB n 0 2)) := by
 refine ent Tryz.func151 rfl Tryz.call151 rfl (fun C => ?_); simp only [go_sem, st0, Tryz.ntmps151]
 refine w0_1 (within_ok n 0 2) ?_
 exact retK_ret ⟨⟨_, rfl, by simp only [go_sem]⟩, trivial⟩
theorem implFile_ok (s : List TField) (f : TFile) (hl : wFieldS s ≤ 4300000) (hf : wFile f ≤ 4300000) : FnC Tryz.prog 185 [.o (.d (.sl (s.map encField))), gFile f] (ob (okFile s f)) := by
 unfold wFieldS at hl
 unfold wFile wAttrS at hf
 refine ent Tryz.func185 rfl Tryz.call185 rfl (fun C => ?_); simp only [go_sem, st0, Tryz.ntmps185]
 refine w0_0 ?_
 refine WP_lp (α := Nat) (fun k => [(10, oi k)]) (fun _ => []) (fun k => k ≤ f.fAttrs.length ∧ (List.range f.fAttrs.length).all (okAttrAt s f.fAttrs) = ((List.range f.fAttrs.length).drop k).all (okAttrAt s f.fAttrs)) (fun k => f.fAttrs.length - k) 0 (fun _ => ?_) ?_ ?_ (fun k hk => ?_)
 ·simp only [go_sem]
 ·simp only [go_sem]; simp
 ·simp
 ·obtain ⟨hk, hq⟩ := hk
  simp only [go_sem]
  refine w0_0 ?_
  refine cnd rfl (fun h => ?_) (fun h => ?_)
  ·simp only [decide_eq_true_eq, Int.ofNat_lt] at h
   have h' : k < (List.range f.fAttrs.length).length := by simpa using h
   have hd := List.drop_eq_getElem_cons h'
   rw [hd, List.all_cons, List.getElem_range] at hq
   have hw := wsum_get wAttr f.fAttrs h
   have hw1 : f.fAttrs[k].fName.size + f.fAttrs[k].fValue.fStr.size ≤ wAttr f.fAttrs[k] := by unfold wAttr wValue; omega
   have hr : okAttrAt s f.fAttrs k = (ordAt TAttr.fName f.fAttrs k && matchS s f.fAttrs[k].fName f.fAttrs[k].fValue) := by unfold okAttrAt; rw [List.getElem?_eq_getElem h]
   have q0 := @h; have q1 := @decide_true; have q2 := @decide_false; refine w3_1 (implMatches_ok s f.fAttrs[k].fName f.fAttrs[k].fValue (by omega) (by omega)) ?_
   by_cases hk0 : 0 < k
   ·have hki : (0 : Int) < (k : Int) := by omega
    have hkx : (k : Int) - 1 = ((k - 1 : Nat) : Int) := by omega
    have hkl : k - 1 < f.fAttrs.length := by omega
    rw [ordAt_pos TAttr.fName f.fAttrs k hk0 h] at hr
    simp only [go_sem, hki, hkx, hkl, decide_true]
    have q0 := @h; have q1 := @decide_true; have q2 := @decide_false; have q3 := @hki; have q4 := @hkx; have q5 := @hkl; refine w6_1 (implMatches_ok s f.fAttrs[k].fName f.fAttrs[k].fValue (by omega) (by omega)) ?_
    cases ho : strLt (TAttr.fName f.fAttrs[k - 1]) (TAttr.fName f.fAttrs[k])
    ·rw [ho] at hr
     simp only [go_sem, ho]
     have q0 := @h; have q1 := @decide_true; have q2 := @decide_false; have q3 := @hki; have q4 := @hkx; have q5 := @hkl; have q6 := @ho; refine w7_0 ?_
     have hf : okFile s f = false := by
      unfold okFile
      rw [hq, hr]; simp
     exact retK_ret ⟨⟨_, rfl, by simp only [go_sem, hf]⟩, trivial⟩
    ·rw [ho] at hr
     simp only [go_sem, ho]
     have q0 := @h; have q1 := @decide_true; have q2 := @decide_false; have q3 := @hki; have q4 := @hkx; have q5 := @hkl; have q6 := @ho; refine w7_1 (implMatches_ok s f.fAttrs[k].fName f.fAttrs[k].fValue (by omega) (by omega)) ?_
     cases hm : matchS s f.fAttrs[k].fName f.fAttrs[k].fValue
     ·rw [hm] at hr
      simp only [go_sem, hm]
      have q0 := @h; have q1 := @decide_true; have q2 := @decide_false; have q3 := @hki; have q4 := @hkx; have q5 := @hkl; have q6 := @ho; have q7 := @hm; refine w8_0 ?_
      have hf : okFile s f = false := by
       unfold okFile
       rw [hq, hr]; simp
      exact retK_ret ⟨⟨_, rfl, by simp only [go_sem, hf]⟩, trivial⟩
     ·rw [hm] at hr
      simp only [go_sem, hm]
      have q0 := @h; have q1 := @decide_true; have q2 := @decide_false; have q3 := @hki; have q4 := @hkx; have q5 := @hkl; have q6 := @ho; have q7 := @hm; refine w8_1 (implMatches_ok s f.fAttrs[k].fName f.fAttrs[k].fValue (by omega) (by omega)) ?_
      refine L_next (k + 1) ?_ ?_ ?_
      ·simp only [go_sem]; simp
      ·refine ⟨h, ?_⟩
       rw [hq, hr]; simp
      ·omega
   ·have hki : ¬ (0 : Int) < (k : Int) := by omega
    rw [ordAt_0 TAttr.fName f.fAttrs k hk0] at hr
    simp only [go_sem, hki, decide_false]
    have q0 := @h; have q1 := @decide_true; have q2 := @decide_false; have q3 := @hki; refine w4_1 (implMatches_ok s f.fAttrs[k].fName f.fAttrs[k].fValue (by omega) (by omega)) ?_
    cases hm : matchS s f.fAttrs[k].fName f.fAttrs[k].fValue
    ·rw [hm] at hr
     simp only [go_sem, hm]
     have q0 := @h; have q1 := @decide_true; have q2 := @decide_false; have q3 := @hki; have q4 := @hm; refine w5_0 ?_
     have hf : okFile s f = false := by
      unfold okFile
      rw [hq, hr]; simp
     exact retK_ret ⟨⟨_, rfl, by simp only [go_sem, hf]⟩, trivial⟩
    ·rw [hm] at hr
     simp only [go_sem, hm]
     have q0 := @h; have q1 := @decide_true; have q2 := @decide_false; have q3 := @hki; have q4 := @hm; refine w5_1 (implMatches_ok s f.fAttrs[k].fName f.fAttrs[k].fValue (by omega) (by omega)) ?_
     refine L_next (k + 1) ?_ ?_ ?_
     ·simp only [go_sem]; simp
     ·refine ⟨h, ?_⟩
      rw [hq, hr]; simp
     ·omega
  ·simp only [decide_eq_false_iff_not] at h
   have e : k = f.fAttrs.length := by omega
   have hq' : (List.range f.fAttrs.length).all (okAttrAt s f.fAttrs) = true := by
    rw [hq, List.drop_of_length_le (by simp [e])]; rfl
   have hr : okFile s f = (inB f.fID 1 60 && (inB f.fOwner 0 2 && (inB f.fLink 0 60 && okSchema s))) := by unfold okFile; rw [hq']; simp only [Bool.true_and]
   have q0 := @decide_true; have q1 := @decide_false; refine w2_4 (within_ok f.fID 1 60) (isUser_ok f.fOwner) (within_ok f.fLink 0 60) (implSchema_ok s (by unfold wFieldS; omega)) ?_
   cases h1 : inB f.fID 1 60
   ·rw [h1] at hr
    simp only [go_sem, h1]
    have q0 := @decide_true; have q1 := @decide_false; have q2 := @h1; refine w3_0 ?_
    exact retK_ret ⟨⟨_, rfl, by simp only [go_sem, hr, Bool.and_true, Bool.and_false, Bool.true_and, Bool.false_and, Bool.not_true, Bool.not_false, decide_true, decide_false]⟩, trivial⟩
   ·rw [h1] at hr
    simp only [go_sem, h1]
    have q0 := @decide_true; have q1 := @decide_false; have q2 := @h1; refine w3_4 (within_ok f.fID 1 60) (isUser_ok f.fOwner) (within_ok f.fLink 0 60) (implSchema_ok s (by unfold wFieldS; omega)) ?_
    cases h2 : inB f.fOwner 0 2
    ·rw [h2] at hr
     simp only [go_sem, h2]
     have q0 := @decide_true; have q1 := @decide_false; have q2 := @h1; have q3 := @h2; refine w4_0 ?_
     exact retK_ret ⟨⟨_, rfl, by simp only [go_sem, hr, Bool.and_true, Bool.and_false, Bool.true_and, Bool.false_and, Bool.not_true, Bool.not_false, decide_true, decide_false]⟩, trivial⟩
    ·rw [h2] at hr
     simp only [go_sem, h2]
     have q0 := @decide_true; have q1 := @decide_false; have q2 := @h1; have q3 := @h2; refine w4_4 (within_ok f.fID 1 60) (isUser_ok f.fOwner) (within_ok f.fLink 0 60) (implSchema_ok s (by unfold wFieldS; omega)) ?_
     cases h3 : inB f.fLink 0 60
     ·rw [h3] at hr
      simp only [go_sem, h3]
      have q0 := @decide_true; have q1 := @decide_false; have q2 := @h1; have q3 := @h2; have q4 := @h3; refine w5_0 ?_
      exact retK_ret ⟨⟨_, rfl, by simp only [go_sem, hr, Bool.and_true, Bool.and_false, Bool.true_and, Bool.false_and, Bool.not_true, Bool.not_false, decide_true, decide_false]⟩, trivial⟩
     ·rw [h3] at hr
      simp only [go_sem, h3]
      have q0 := @decide_true; have q1 := @decide_false; have q2 := @h1; have q3 := @h2; have q4 := @h3; refine w5_4 (within_ok f.fID 1 60) (isUser_ok f.fOwner) (within_ok f.fLink 0 60) (implSchema_ok s (by unfold wFieldS; omega)) ?_
      exact retK_ret ⟨⟨_, rfl, by simp only [go_sem, hr, Bool.and_true, Bool.and_false, Bool.true_and, Bool.false_and, Bool.not_true, Bool.not_false, decide_true, decide_false]⟩, trivial⟩
theorem implStore_ok (x : TStore) (hx : wStore x ≤ 4300000) : FnC Tryz.prog 163 [gStore x] (ob (okStore x)) := by
 unfold wStore wFieldS wFileS at hx
 refine ent Tryz.func163 rfl Tryz.call163 rfl (fun C => ?_); simp only [go_sem, st0, Tryz.ntmps163]
 refine w0_0 ?_
 refine WP_lp (α := Nat) (fun k => [(8, oi k)]) (fun _ => []) (fun k => k ≤ x.fFiles.length ∧ (List.range x.fFiles.length).all (okFileAt x) = ((List.range x.fFiles.length).drop k).all (okFileAt x)) (fun k => x.fFiles.length - k) 0 (fun _ => ?_) ?_ ?_ (fun k hk => ?_)
 ·simp only [go_sem]
 ·simp only [go_sem]; simp
 ·simp
 ·obtain ⟨hk, hq⟩ := hk
  simp only [go_sem]
  refine w0_0 ?_
  refine cnd rfl (fun h => ?_) (fun h => ?_)
  ·simp only [decide_eq_true_eq, Int.ofNat_lt] at h
   have h' : k < (List.range x.fFiles.length).length := by simpa using h
   have hd := List.drop_eq_getElem_cons h'
   rw [hd, List.all_cons, List.getElem_range] at hq
   have hw := wsum_get wFile x.fFiles h
   have hr : okFileAt x k = (okFile x.fSchema x.fFiles[k] && (!decide (x.fNextID ≤ x.fFiles[k].fID) && upAt x.fFiles k)) := by unfold okFileAt; rw [List.getElem?_eq_getElem h]
   have q0 := @h; have q1 := @decide_true; have q2 := @decide_false; refine w3_1 (implFile_ok x.fSchema x.fFiles[k] (by unfold wFieldS; omega) (by omega)) ?_
   cases hm : okFile x.fSchema x.fFiles[k]
   ·rw [hm] at hr
    simp only [go_sem, hm]
    have q0 := @h; have q1 := @decide_true; have q2 := @decide_false; have q3 := @hm; refine w4_0 ?_
    have hf : okStore x = false := by
     unfold okStore
     rw [hq, hr]; simp
    exact retK_ret ⟨⟨_, rfl, by simp only [go_sem, hf]⟩, trivial⟩
   ·rw [hm] at hr
    simp only [go_sem, hm]
    have q0 := @h; have q1 := @decide_true; have q2 := @decide_false; have q3 := @hm; refine w4_1 (implFile_ok x.fSchema x.fFiles[k] (by unfold wFieldS; omega) (by omega)) ?_
    by_cases hn : x.fNextID ≤ x.fFiles[k].fID
    ·simp only [hn, decide_true] at hr
     simp only [go_sem, hn, decide_true]
     have q0 := @h; have q1 := @decide_true; have q2 := @decide_false; have q3 := @hm; have q4 := @hn; refine w5_0 ?_
     have hf : okStore x = false := by
      unfold okStore
      rw [hq, hr]; simp
     exact retK_ret ⟨⟨_, rfl, by simp only [go_sem, hf]⟩, trivial⟩
    ·simp only [hn, decide_false] at hr
     simp only [go_sem, hn, decide_false]
     have q0 := @h; have q1 := @decide_true; have q2 := @decide_false; have q3 := @hm; have q4 := @hn; refine w5_1 (implFile_ok x.fSchema x.fFiles[k] (by unfold wFieldS; omega) (by omega)) ?_
     by_cases hk0 : 0 < k
     ·have hki : (0 : Int) < (k : Int) := by omega
      have hkx : (k : Int) - 1 = ((k - 1 : Nat) : Int) := by omega
      have hkl : k - 1 < x.fFiles.length := by omega
      rw [upAt_pos x.fFiles k hk0 h] at hr
      simp only [go_sem, hki, hkx, hkl, decide_true]
      have q0 := @h; have q1 := @decide_true; have q2 := @decide_false; have q3 := @hm; have q4 := @hn; have q5 := @hki; have q6 := @hkx; have q7 := @hkl; refine w8_1 (implFile_ok x.fSchema x.fFiles[k] (by unfold wFieldS; omega) (by omega)) ?_
      by_cases ho : x.fFiles[k].fID ≤ x.fFiles[k - 1].fID
      ·simp only [ho, decide_true] at hr
       simp only [go_sem, ho, decide_true]
       have q0 := @h; have q1 := @decide_true; have q2 := @decide_false; have q3 := @hm; have q4 := @hn; have q5 := @hki; have q6 := @hkx; have q7 := @hkl; have q8 := @ho; refine w9_0 ?_
       have hf : okStore x = false := by
        unfold okStore
        rw [hq, hr]; simp
       exact retK_ret ⟨⟨_, rfl, by simp only [go_sem, hf]⟩, trivial⟩
      ·simp only [ho, decide_false] at hr
       simp only [go_sem, ho, decide_false]
       have q0 := @h; have q1 := @decide_true; have q2 := @decide_false; have q3 := @hm; have q4 := @hn; have q5 := @hki; have q6 := @hkx; have q7 := @hkl; have q8 := @ho; refine w9_1 (implFile_ok x.fSchema x.fFiles[k] (by unfold wFieldS; omega) (by omega)) ?_
       refine L_next (k + 1) ?_ ?_ ?_
       ·simp only [go_sem]; simp
       ·refine ⟨h, ?_⟩
        rw [hq, hr]; simp
       ·omega
     ·have hki : ¬ (0 : Int) < (k : Int) := by omega
      rw [upAt_0 x.fFiles k hk0] at hr
      simp only [go_sem, hki, decide_false]
      have q0 := @h; have q1 := @decide_true; have q2 := @decide_false; have q3 := @hm; have q4 := @hn; have q5 := @hki; refine w6_1 (implFile_ok x.fSchema x.fFiles[k] (by unfold wFieldS; omega) (by omega)) ?_
      refine L_next (k + 1) ?_ ?_ ?_
      ·simp only [go_sem]; simp
      ·refine ⟨h, ?_⟩
       rw [hq, hr]; simp
      ·omega
  ·simp only [decide_eq_false_iff_not] at h
   have e : k = x.fFiles.length := by omega
   have hq' : (List.range x.fFiles.length).all (okFileAt x) = true := by
    rw [hq, List.drop_of_length_le (by simp [e])]; rfl
   have hr : okStore x = (okSchema x.fSchema && (decide ((x.fFiles.length : Int) ≤ 12) && inB x.fNextID 1 61)) := by unfold okStore; rw [hq']; simp only [Bool.true_and]
   have q0 := @decide_true; have q1 := @decide_false; refine w2_2 (implSchema_ok x.fSchema (by unfold wFieldS; omega)) (within_ok x.fNextID 1 61) ?_
   cases h0 : okSchema x.fSchema
   ·rw [h0] at hr
    simp only [go_sem, h0]
    have q0 := @decide_true; have q1 := @decide_false; have q2 := @h0; refine w3_0 ?_
    exact retK_ret ⟨⟨_, rfl, by simp only [go_sem, hr, Bool.and_true, Bool.and_false, Bool.true_and, Bool.false_and, Bool.not_true, Bool.not_false, decide_true, decide_false]⟩, trivial⟩
   ·rw [h0] at hr
    simp only [go_sem, h0]
    have q0 := @decide_true; have q1 := @decide_false; have q2 := @h0; refine w3_2 (implSchema_ok x.fSchema (by unfold wFieldS; omega)) (within_ok x.fNextID 1 61) ?_
    by_cases h1 : (x.fFiles.length : Int) ≤ 12
    ·simp only [h1, decide_true] at hr
     simp only [go_sem, h1, decide_true]
     have q0 := @decide_true; have q1 := @decide_false; have q2 := @h0; have q3 := @h1; refine w4_2 (implSchema_ok x.fSchema (by unfold wFieldS; omega)) (within_ok x.fNextID 1 61) ?_
     exact retK_ret ⟨⟨_, rfl, by simp only [go_sem, hr, Bool.and_true, Bool.and_false, Bool.true_and, Bool.false_and, Bool.not_true, Bool.not_false, decide_true, decide_false]⟩, trivial⟩
    ·simp only [h1, decide_false] at hr
     simp only [go_sem, h1, decide_false]
     have q0 := @decide_true; have q1 := @decide_false; have q2 := @h0; have q3 := @h1; refine w4_0 ?_
     exact retK_ret ⟨⟨_, rfl, by simp only [go_sem, hr, Bool.and_true, Bool.and_false, Bool.true_and, Bool.false_and, Bool.not_true, Bool.not_false, decide_true, decide_false]⟩, trivial⟩
theorem implVDirs_ok (d : List TDir) (hd : wDirS d ≤ 4300000) : FnC Tryz.prog 202 [.o (.d (.sl (d.map encDir)))] (ob (okDirs d)) := by
 unfold wDirS at hd
 refine ent Tryz.func202 rfl Tryz.call202 rfl (fun C => ?_); simp only [go_sem, st0, Tryz.ntmps202]
 refine w0_0 ?_
 refine WP_lp (α := Nat) (fun k => [(7, oi k)]) (fun _ => []) (fun k => k ≤ d.length ∧ (List.range d.length).all (okDirAt d) = ((List.range d.length).drop k).all (okDirAt d)) (fun k => d.length - k) 0 (fun _ => ?_) ?_ ?_ (fun k hk => ?_)
 ·simp only [go_sem]
 ·simp only [go_sem]; simp
 ·simp
 ·obtain ⟨hk, hq⟩ := hk
  simp only [go_sem]
  refine w0_0 ?_
  refine cnd rfl (fun h => ?_) (fun h => ?_)
  ·simp only [decide_eq_true_eq, Int.ofNat_lt] at h
   have h' : k < (List.range d.length).length := by simpa using h
   have hd := List.drop_eq_getElem_cons h'
   rw [hd, List.all_cons, List.getElem_range] at hq
   have hw := wsum_get wDir d h
   have hw1 : d[k].fName.size + wNodeS d[k].fQuery ≤ wDir d[k] := by unfold wDir; omega
   have hr : okDirAt d k = (isText d[k].fName 6 && (ordAt TDir.fName d k && okQ d[k].fQuery)) := by unfold okDirAt; rw [List.getElem?_eq_getElem h]
   have q0 := @h; have q1 := @decide_true; have q2 := @decide_false; refine w3_2 (implIsValidString_ok d[k].fName (by omega)) (implIsValidQuery_ok d[k].fQuery (by omega)) ?_
   cases ht : isText d[k].fName 6
   ·rw [ht] at hr
    simp only [go_sem, ht]
    have q0 := @h; have q1 := @decide_true; have q2 := @decide_false; have q3 := @ht; refine w4_0 ?_
    have hf : okDirs d = false := by
     unfold okDirs
     rw [hq, hr]; simp
    exact retK_ret ⟨⟨_, rfl, by simp only [go_sem, hf]⟩, trivial⟩
   ·rw [ht] at hr
    simp only [go_sem, ht]
    have q0 := @h; have q1 := @decide_true; have q2 := @decide_false; have q3 := @ht; refine w4_2 (implIsValidString_ok d[k].fName (by omega)) (implIsValidQuery_ok d[k].fQuery (by omega)) ?_
    by_cases hk0 : 0 < k
    ·have hki : (0 : Int) < (k : Int) := by omega
     have hkx : (k : Int) - 1 = ((k - 1 : Nat) : Int) := by omega
     have hkl : k - 1 < d.length := by omega
     rw [ordAt_pos TDir.fName d k hk0 h] at hr
     simp only [go_sem, hki, hkx, hkl, decide_true]
     have q0 := @h; have q1 := @decide_true; have q2 := @decide_false; have q3 := @ht; have q4 := @hki; have q5 := @hkx; have q6 := @hkl; refine w7_2 (implIsValidString_ok d[k].fName (by omega)) (implIsValidQuery_ok d[k].fQuery (by omega)) ?_
     cases ho : strLt (TDir.fName d[k - 1]) (TDir.fName d[k])
     ·rw [ho] at hr
      simp only [go_sem, ho]
      have q0 := @h; have q1 := @decide_true; have q2 := @decide_false; have q3 := @ht; have q4 := @hki; have q5 := @hkx; have q6 := @hkl; have q7 := @ho; refine w8_0 ?_
      have hf : okDirs d = false := by
       unfold okDirs
       rw [hq, hr]; simp
      exact retK_ret ⟨⟨_, rfl, by simp only [go_sem, hf]⟩, trivial⟩
     ·rw [ho] at hr
      simp only [go_sem, ho]
      have q0 := @h; have q1 := @decide_true; have q2 := @decide_false; have q3 := @ht; have q4 := @hki; have q5 := @hkx; have q6 := @hkl; have q7 := @ho; refine w8_2 (implIsValidString_ok d[k].fName (by omega)) (implIsValidQuery_ok d[k].fQuery (by omega)) ?_
      cases hv : okQ d[k].fQuery
      ·rw [hv] at hr
       simp only [go_sem, hv]
       have q0 := @h; have q1 := @decide_true; have q2 := @decide_false; have q3 := @ht; have q4 := @hki; have q5 := @hkx; have q6 := @hkl; have q7 := @ho; have q8 := @hv; refine w9_0 ?_
       have hf : okDirs d = false := by
        unfold okDirs
        rw [hq, hr]; simp
       exact retK_ret ⟨⟨_, rfl, by simp only [go_sem, hf]⟩, trivial⟩
      ·rw [hv] at hr
       simp only [go_sem, hv]
       have q0 := @h; have q1 := @decide_true; have q2 := @decide_false; have q3 := @ht; have q4 := @hki; have q5 := @hkx; have q6 := @hkl; have q7 := @ho; have q8 := @hv; refine w9_2 (implIsValidString_ok d[k].fName (by omega)) (implIsValidQuery_ok d[k].fQuery (by omega)) ?_
       refine L_next (k + 1) ?_ ?_ ?_
       ·simp only [go_sem]; simp
       ·refine ⟨h, ?_⟩
        rw [hq, hr]; simp
       ·omega
    ·have hki : ¬ (0 : Int) < (k : Int) := by omega
     rw [ordAt_0 TDir.fName d k hk0] at hr
     simp only [go_sem, hki, decide_false]
     have q0 := @h; have q1 := @decide_true; have q2 := @decide_false; have q3 := @ht; have q4 := @hki; refine w5_2 (implIsValidString_ok d[k].fName (by omega)) (implIsValidQuery_ok d[k].fQuery (by omega)) ?_
     cases hv : okQ d[k].fQuery
     ·rw [hv] at hr
      simp only [go_sem, hv]
      have q0 := @h; have q1 := @decide_true; have q2 := @decide_false; have q3 := @ht; have q4 := @hki; have q5 := @hv; refine w6_0 ?_
      have hf : okDirs d = false := by
       unfold okDirs
       rw [hq, hr]; simp
      exact retK_ret ⟨⟨_, rfl, by simp only [go_sem, hf]⟩, trivial⟩
     ·rw [hv] at hr
      simp only [go_sem, hv]
      have q0 := @h; have q1 := @decide_true; have q2 := @decide_false; have q3 := @ht; have q4 := @hki; have q5 := @hv; refine w6_2 (implIsValidString_ok d[k].fName (by omega)) (implIsValidQuery_ok d[k].fQuery (by omega)) ?_
      refine L_next (k + 1) ?_ ?_ ?_
      ·simp only [go_sem]; simp
      ·refine ⟨h, ?_⟩
       rw [hq, hr]; simp
      ·omega
  ·simp only [decide_eq_false_iff_not] at h
   have e : k = d.length := by omega
   have hq' : (List.range d.length).all (okDirAt d) = true := by
    rw [hq, List.drop_of_length_le (by simp [e])]; rfl
   have hr : okDirs d = decide ((d.length : Int) ≤ 5) := by unfold okDirs; rw [hq']; simp only [Bool.true_and]
   have q0 := @decide_true; have q1 := @decide_false; refine w2_0 ?_
   exact retK_ret ⟨⟨_, rfl, by simp only [go_sem, hr, Bool.and_true, Bool.and_false, Bool.true_and, Bool.false_and, Bool.not_true, Bool.not_false, decide_true, decide_false]⟩, trivial⟩
theorem specFieldKind_ok (l : List TField) (s : ByteArray) (hl : l.length ≤ 4300000) : FnC Tryz.prog 288 [.o (.d (.sl (l.map encField))), os s] (oi (fieldKind s l)) := by
 generalize hg : fieldKind s l = res
 refine ent Tryz.func288 rfl Tryz.call288 rfl (fun C => ?_); simp only [go_sem, st0, Tryz.ntmps288]
 refine w0_0 ?_
 refine WP_lp (α := Nat) (fun k => [(5, oi k)]) (fun k => []) (fun k => k ≤ l.length ∧ fieldKind s (l.drop k) = res) (fun k => l.length - k) 0 (fun _ => ?_) ?_ ?_ (fun k hk => ?_)
 ·simp only [go_sem]
 ·simp only [go_sem]; simp
 ·simp [hg]
 ·simp only [go_sem]
  obtain ⟨hk, hq⟩ := hk
  refine w0_0 ?_
  refine cnd rfl (fun h1 => ?_) (fun h1 => ?_)
  ·simp only [decide_eq_true_eq, Int.ofNat_lt] at h1
   rw [fieldKind_drop s l k h1] at hq
   by_cases hv : l[k].fName = s
   ·rw [if_pos hv] at hq
    have q0 := @h1; have q1 := @hv; have q2 := @decide_true; refine w3_0 ?_
    exact retK_ret ⟨⟨_, rfl, by simp only [go_sem, hq]⟩, trivial⟩
   ·rw [if_neg hv] at hq
    have q0 := @h1; have q1 := @hv; have q2 := @decide_false; refine w3_0 ?_
    refine L_next (k + 1) ?_ ?_ ?_
    ·simp only [go_sem]; simp
    ·exact ⟨by omega, hq⟩
    ·omega
  ·simp only [decide_eq_false_iff_not] at h1
   have e : k = l.length := by omega
   subst e
   rw [List.drop_length] at hq
   have hn : res = 0 := hq.symm
   subst hn
   refine w0_0 ?_
   exact retK_ret ⟨⟨_, rfl, by simp only [go_sem]⟩, trivial⟩
theorem specMatches_ok (s : List TField) (n : ByteArray) (v : TValue) (hl : s.length ≤ 4300000) (hs : v.fStr.size ≤ 4300000) : FnC Tryz.prog 237 [.o (.d (.sl (s.map encField))), os n, gValue v] (ob (matchS s n v)) := by
 have hr : matchS s n v = (okVal v && (!decide (v.fKind = 0) && decide (v.fKind = fieldKind n s))) := rfl
 refine ent Tryz.func237 rfl Tryz.call237 rfl (fun C => ?_); simp only [go_sem, st0, Tryz.ntmps237]
 have q0 := @decide_true; have q1 := @decide_false; refine w2_2 (specIsValidValue_ok v hs) (specFieldKind_ok s n hl) ?_
 cases hv : okVal v
 ·rw [hv] at hr
  simp only [go_sem, hv]
  have q0 := @decide_true; have q1 := @decide_false; have q2 := @hv; refine w3_0 ?_
  exact retK_ret ⟨⟨_, rfl, by simp only [go_sem, hr, Bool.and_true, Bool.and_false, Bool.true_and, Bool.false_and, Bool.not_true, Bool.not_false, decide_true, decide_false]⟩, trivial⟩
 ·rw [hv] at hr
  simp only [go_sem, hv]
  have q0 := @decide_true; have q1 := @decide_false; have q2 := @hv; refine w3_2 (specIsValidValue_ok v hs) (specFieldKind_ok s n hl) ?_
  by_cases hk : v.fKind = 0
  ·simp only [hk, decide_true] at hr
   simp only [go_sem, hk, decide_true]
   have q0 := @decide_true; have q1 := @decide_false; have q2 := @hv; have q3 := @hk; refine w4_0 ?_
   exact retK_ret ⟨⟨_, rfl, by simp only [go_sem, hr, Bool.and_true, Bool.and_false, Bool.true_and, Bool.false_and, Bool.not_true, Bool.not_false, decide_true, decide_false]⟩, trivial⟩
  ·simp only [hk, decide_false] at hr
   simp only [go_sem, hk, decide_false]
   have q0 := @decide_true; have q1 := @decide_false; have q2 := @hv; have q3 := @hk; refine w4_2 (specIsValidValue_ok v hs) (specFieldKind_ok s n hl) ?_
   exact retK_ret ⟨⟨_, rfl, by simp only [go_sem, hr, Bool.and_true, Bool.and_false, Bool.true_and, Bool.false_and, Bool.not_true, Bool.not_false, decide_true, decide_false]⟩, trivial⟩
theorem specSchema_ok (s : List TField) (hl : wFieldS s ≤ 4300000) : FnC Tryz.prog 158 [.o (.d (.sl (s.map encField)))] (ob (okSchema s)) := by
 unfold wFieldS at hl
 refine ent Tryz.func158 rfl Tryz.call158 rfl (fun C => ?_); simp only [go_sem, st0, Tryz.ntmps158]
 refine w0_0 ?_
 refine WP_lp (α := Nat) (fun k => [(3, oi k)]) (fun _ => []) (fun k => k ≤ s.length ∧ (List.range s.length).all (okFieldAt s) = ((List.range s.length).drop k).all (okFieldAt s)) (fun k => s.length - k) 0 (fun _ => ?_) ?_ ?_ (fun k hk => ?_)
 ·simp only [go_sem]
 ·simp only [go_sem]; simp
 ·simp
 ·obtain ⟨hk, hq⟩ := hk
  simp only [go_sem]
  refine w0_0 ?_
  refine cnd rfl (fun h => ?_) (fun h => ?_)
  ·simp only [decide_eq_true_eq, Int.ofNat_lt] at h
   have h' : k < (List.range s.length).length := by simpa using h
   have hd := List.drop_eq_getElem_cons h'
   rw [hd, List.all_cons, List.getElem_range] at hq
   have hw := wsum_get wField s h
   have hw1 : s[k].fName.size ≤ wField s[k] := by unfold wField; omega
   have hr : okFieldAt s k = (isText s[k].fName 1 && (inB s[k].fKind 1 2 && ordAt TField.fName s k)) := by unfold okFieldAt; rw [List.getElem?_eq_getElem h]
   have q0 := @h; have q1 := @decide_true; have q2 := @decide_false; refine w3_2 (specIsValidAttrName_ok s[k].fName (by omega)) (l01In_ok s[k].fKind 1 2) ?_
   cases ht : isText s[k].fName 1
   ·rw [ht] at hr
    simp only [go_sem, ht]
    have q0 := @h; have q1 := @decide_true; have q2 := @decide_false; have q3 := @ht; refine w4_0 ?_
    have hf : okSchema s = false := by
     unfold okSchema
     rw [hq, hr]; simp
    exact retK_ret ⟨⟨_, rfl, by simp only [go_sem, hf]⟩, trivial⟩
   ·rw [ht] at hr
    simp only [go_sem, ht]
    have q0 := @h; have q1 := @decide_true; have q2 := @decide_false; have q3 := @ht; refine w4_2 (specIsValidAttrName_ok s[k].fName (by omega)) (l01In_ok s[k].fKind 1 2) ?_
    cases hb : inB s[k].fKind 1 2
    ·rw [hb] at hr
     simp only [go_sem, hb]
     have q0 := @h; have q1 := @decide_true; have q2 := @decide_false; have q3 := @ht; have q4 := @hb; refine w5_0 ?_
     have hf : okSchema s = false := by
      unfold okSchema
      rw [hq, hr]; simp
     exact retK_ret ⟨⟨_, rfl, by simp only [go_sem, hf]⟩, trivial⟩
    ·rw [hb] at hr
     simp only [go_sem, hb]
     have q0 := @h; have q1 := @decide_true; have q2 := @decide_false; have q3 := @ht; have q4 := @hb; refine w5_2 (specIsValidAttrName_ok s[k].fName (by omega)) (l01In_ok s[k].fKind 1 2) ?_
     by_cases hk0 : 0 < k
     ·have hki : (0 : Int) < (k : Int) := by omega
      have hkx : (k : Int) - 1 = ((k - 1 : Nat) : Int) := by omega
      have hkl : k - 1 < s.length := by omega
      rw [ordAt_pos TField.fName s k hk0 h] at hr
      simp only [go_sem, hki, hkx, hkl, decide_true]
      have q0 := @h; have q1 := @decide_true; have q2 := @decide_false; have q3 := @ht; have q4 := @hb; have q5 := @hki; have q6 := @hkx; have q7 := @hkl; refine w8_2 (specIsValidAttrName_ok s[k].fName (by omega)) (l01In_ok s[k].fKind 1 2) ?_
      cases ho : strLt (TField.fName s[k - 1]) (TField.fName s[k])
      ·rw [ho] at hr
       simp only [go_sem, ho]
       have q0 := @h; have q1 := @decide_true; have q2 := @decide_false; have q3 := @ht; have q4 := @hb; have q5 := @hki; have q6 := @hkx; have q7 := @hkl; have q8 := @ho; refine w9_0 ?_
       have hf : okSchema s = false := by
        unfold okSchema
        rw [hq, hr]; simp
       exact retK_ret ⟨⟨_, rfl, by simp only [go_sem, hf]⟩, trivial⟩
      ·rw [ho] at hr
       simp only [go_sem, ho]
       have q0 := @h; have q1 := @decide_true; have q2 := @decide_false; have q3 := @ht; have q4 := @hb; have q5 := @hki; have q6 := @hkx; have q7 := @hkl; have q8 := @ho; refine w9_2 (specIsValidAttrName_ok s[k].fName (by omega)) (l01In_ok s[k].fKind 1 2) ?_
       refine L_next (k + 1) ?_ ?_ ?_
       ·simp only [go_sem]; simp
       ·refine ⟨h, ?_⟩
        rw [hq, hr]; simp
       ·omega
     ·have hki : ¬ (0 : Int) < (k : Int) := by omega
      rw [ordAt_0 TField.fName s k hk0] at hr
      simp only [go_sem, hki, decide_false]
      have q0 := @h; have q1 := @decide_true; have q2 := @decide_false; have q3 := @ht; have q4 := @hb; have q5 := @hki; refine w6_2 (specIsValidAttrName_ok s[k].fName (by omega)) (l01In_ok s[k].fKind 1 2) ?_
      refine L_next (k + 1) ?_ ?_ ?_
      ·simp only [go_sem]; simp
      ·refine ⟨h, ?_⟩
       rw [hq, hr]; simp
      ·omega
  ·simp only [decide_eq_false_iff_not] at h
   have e : k = s.length := by omega
   have hq' : (List.range s.length).all (okFieldAt s) = true := by
    rw [hq, List.drop_of_length_le (by simp [e])]; rfl
   have hr : okSchema s = decide ((s.length : Int) ≤ 5) := by unfold okSchema; rw [hq']; simp only [Bool.true_and]
   have q0 := @decide_true; have q1 := @decide_false; refine w2_0 ?_
   exact retK_ret ⟨⟨_, rfl, by simp only [go_sem, hr, Bool.and_true, Bool.and_false, Bool.true_and, Bool.false_and, Bool.not_true, Bool.not_false, decide_true, decide_false]⟩, trivial⟩
theorem specFile_ok (s : List TField) (f : TFile) (hl : wFieldS s ≤ 4300000) (hf : wFile f ≤ 4300000) : FnC Tryz.prog 157 [.o (.d (.sl (s.map encField))), gFile f] (ob (okFile s f)) := by
 unfold wFieldS at hl
 unfold wFile wAttrS at hf
 refine ent Tryz.func157 rfl Tryz.call157 rfl (fun C => ?_); simp only [go_sem, st0, Tryz.ntmps157]
 refine w0_0 ?_
 refine WP_lp (α := Nat) (fun k => [(5, oi k)]) (fun _ => []) (fun k => k ≤ f.fAttrs.length ∧ (List.range f.fAttrs.length).all (okAttrAt s f.fAttrs) = ((List.range f.fAttrs.length).drop k).all (okAttrAt s f.fAttrs)) (fun k => f.fAttrs.length - k) 0 (fun _ => ?_) ?_ ?_ (fun k hk => ?_)
 ·simp only [go_sem]
 ·simp only [go_sem]; simp
 ·simp
 ·obtain ⟨hk, hq⟩ := hk
  simp only [go_sem]
  refine w0_0 ?_
  refine cnd rfl (fun h => ?_) (fun h => ?_)
  ·simp only [decide_eq_true_eq, Int.ofNat_lt] at h
   have h' : k < (List.range f.fAttrs.length).length := by simpa using h
   have hd := List.drop_eq_getElem_cons h'
   rw [hd, List.all_cons, List.getElem_range] at hq
   have hw := wsum_get wAttr f.fAttrs h
   have hw1 : f.fAttrs[k].fName.size + f.fAttrs[k].fValue.fStr.size ≤ wAttr f.fAttrs[k] := by unfold wAttr wValue; omega
   have hr : okAttrAt s f.fAttrs k = (matchS s f.fAttrs[k].fName f.fAttrs[k].fValue && ordAt TAttr.fName f.fAttrs k) := by unfold okAttrAt; rw [List.getElem?_eq_getElem h]; exact Bool.and_comm _ _
   have q0 := @h; have q1 := @decide_true; have q2 := @decide_false; refine w3_1 (specMatches_ok s f.fAttrs[k].fName f.fAttrs[k].fValue (by omega) (by omega)) ?_
   cases hm : matchS s f.fAttrs[k].fName f.fAttrs[k].fValue
   ·rw [hm] at hr
    simp only [go_sem, hm]
    have q0 := @h; have q1 := @decide_true; have q2 := @decide_false; have q3 := @hm; refine w4_0 ?_
    have hf : okFile s f = false := by
     unfold okFile
     rw [hq, hr]; simp
    exact retK_ret ⟨⟨_, rfl, by simp only [go_sem, hf]⟩, trivial⟩
   ·rw [hm] at hr
    simp only [go_sem, hm]
    have q0 := @h; have q1 := @decide_true; have q2 := @decide_false; have q3 := @hm; refine w4_1 (specMatches_ok s f.fAttrs[k].fName f.fAttrs[k].fValue (by omega) (by omega)) ?_
    by_cases hk0 : 0 < k
    ·have hki : (0 : Int) < (k : Int) := by omega
     have hkx : (k : Int) - 1 = ((k - 1 : Nat) : Int) := by omega
     have hkl : k - 1 < f.fAttrs.length := by omega
     rw [ordAt_pos TAttr.fName f.fAttrs k hk0 h] at hr
     simp only [go_sem, hki, hkx, hkl, decide_true]
     have q0 := @h; have q1 := @decide_true; have q2 := @decide_false; have q3 := @hm; have q4 := @hki; have q5 := @hkx; have q6 := @hkl; refine w7_1 (specMatches_ok s f.fAttrs[k].fName f.fAttrs[k].fValue (by omega) (by omega)) ?_
     cases ho : strLt (TAttr.fName f.fAttrs[k - 1]) (TAttr.fName f.fAttrs[k])
     ·rw [ho] at hr
      simp only [go_sem, ho]
      have q0 := @h; have q1 := @decide_true; have q2 := @decide_false; have q3 := @hm; have q4 := @hki; have q5 := @hkx; have q6 := @hkl; have q7 := @ho; refine w8_0 ?_
      have hf : okFile s f = false := by
       unfold okFile
       rw [hq, hr]; simp
      exact retK_ret ⟨⟨_, rfl, by simp only [go_sem, hf]⟩, trivial⟩
     ·rw [ho] at hr
      simp only [go_sem, ho]
      have q0 := @h; have q1 := @decide_true; have q2 := @decide_false; have q3 := @hm; have q4 := @hki; have q5 := @hkx; have q6 := @hkl; have q7 := @ho; refine w8_1 (specMatches_ok s f.fAttrs[k].fName f.fAttrs[k].fValue (by omega) (by omega)) ?_
      refine L_next (k + 1) ?_ ?_ ?_
      ·simp only [go_sem]; simp
      ·refine ⟨h, ?_⟩
       rw [hq, hr]; simp
      ·omega
    ·have hki : ¬ (0 : Int) < (k : Int) := by omega
     rw [ordAt_0 TAttr.fName f.fAttrs k hk0] at hr
     simp only [go_sem, hki, decide_false]
     have q0 := @h; have q1 := @decide_true; have q2 := @decide_false; have q3 := @hm; have q4 := @hki; refine w5_1 (specMatches_ok s f.fAttrs[k].fName f.fAttrs[k].fValue (by omega) (by omega)) ?_
     refine L_next (k + 1) ?_ ?_ ?_
     ·simp only [go_sem]; simp
     ·refine ⟨h, ?_⟩
      rw [hq, hr]; simp
     ·omega
  ·simp only [decide_eq_false_iff_not] at h
   have e : k = f.fAttrs.length := by omega
   have hq' : (List.range f.fAttrs.length).all (okAttrAt s f.fAttrs) = true := by
    rw [hq, List.drop_of_length_le (by simp [e])]; rfl
   have hr : okFile s f = (okSchema s && (inB f.fID 1 60 && (inB f.fOwner 0 2 && inB f.fLink 0 60))) := by unfold okFile; rw [hq']; simp only [Bool.true_and]; cases okSchema s <;> simp
   have q0 := @decide_true; have q1 := @decide_false; refine w2_4 (l01In_ok f.fID 1 60) (l01In_ok f.fOwner 0 2) (l01In_ok f.fLink 0 60) (specSchema_ok s (by unfold wFieldS; omega)) ?_
   cases h0 : okSchema s
   ·rw [h0] at hr
    simp only [go_sem, h0]
    have q0 := @decide_true; have q1 := @decide_false; have q2 := @h0; refine w3_0 ?_
    exact retK_ret ⟨⟨_, rfl, by simp only [go_sem, hr, Bool.and_true, Bool.and_false, Bool.true_and, Bool.false_and, Bool.not_true, Bool.not_false, decide_true, decide_false]⟩, trivial⟩
   ·rw [h0] at hr
    simp only [go_sem, h0]
    have q0 := @decide_true; have q1 := @decide_false; have q2 := @h0; refine w3_4 (l01In_ok f.fID 1 60) (l01In_ok f.fOwner 0 2) (l01In_ok f.fLink 0 60) (specSchema_ok s (by unfold wFieldS; omega)) ?_
    cases h1 : inB f.fID 1 60
    ·rw [h1] at hr
     simp only [go_sem, h1]
     have q0 := @decide_true; have q1 := @decide_false; have q2 := @h0; have q3 := @h1; refine w4_0 ?_
     exact retK_ret ⟨⟨_, rfl, by simp only [go_sem, hr, Bool.and_true, Bool.and_false, Bool.true_and, Bool.false_and, Bool.not_true, Bool.not_false, decide_true, decide_false]⟩, trivial⟩
    ·rw [h1] at hr
     simp only [go_sem, h1]
     have q0 := @decide_true; have q1 := @decide_false; have q2 := @h0; have q3 := @h1; refine w4_4 (l01In_ok f.fID 1 60) (l01In_ok f.fOwner 0 2) (l01In_ok f.fLink 0 60) (specSchema_ok s (by unfold wFieldS; omega)) ?_
     cases h2 : inB f.fOwner 0 2
     ·rw [h2] at hr
      simp only [go_sem, h2]
      have q0 := @decide_true; have q1 := @decide_false; have q2 := @h0; have q3 := @h1; have q4 := @h2; refine w5_0 ?_
      exact retK_ret ⟨⟨_, rfl, by simp only [go_sem, hr, Bool.and_true, Bool.and_false, Bool.true_and, Bool.false_and, Bool.not_true, Bool.not_false, decide_true, decide_false]⟩, trivial⟩
     ·rw [h2] at hr
      simp only [go_sem, h2]
      have q0 := @decide_true; have q1 := @decide_false; have q2 := @h0; have q3 := @h1; have q4 := @h2; refine w5_4 (l01In_ok f.fID 1 60) (l01In_ok f.fOwner 0 2) (l01In_ok f.fLink 0 60) (specSchema_ok s (by unfold wFieldS; omega)) ?_
      exact retK_ret ⟨⟨_, rfl, by simp only [go_sem, hr, Bool.and_true, Bool.and_false, Bool.true_and, Bool.false_and, Bool.not_true, Bool.not_false, decide_true, decide_false]⟩, trivial⟩
theorem specStore_ok (x : TStore) (hx : wStore x ≤ 4300000) : FnC Tryz.prog 80 [gStore x] (ob (okStore x)) := by
 unfold wStore wFieldS wFileS at hx
 refine ent Tryz.func80 rfl Tryz.call80 rfl (fun C => ?_); simp only [go_sem, st0, Tryz.ntmps80]
 refine w0_0 ?_
 refine WP_lp (α := Nat) (fun k => [(3, oi k)]) (fun _ => []) (fun k => k ≤ x.fFiles.length ∧ (List.range x.fFiles.length).all (okFileAt x) = ((List.range x.fFiles.length).drop k).all (okFileAt x)) (fun k => x.fFiles.length - k) 0 (fun _ => ?_) ?_ ?_ (fun k hk => ?_)
 ·simp only [go_sem]
 ·simp only [go_sem]; simp
 ·simp
 ·obtain ⟨hk, hq⟩ := hk
  simp only [go_sem]
  refine w0_0 ?_
  refine cnd rfl (fun h => ?_) (fun h => ?_)
  ·simp only [decide_eq_true_eq, Int.ofNat_lt] at h
   have h' : k < (List.range x.fFiles.length).length := by simpa using h
   have hd := List.drop_eq_getElem_cons h'
   rw [hd, List.all_cons, List.getElem_range] at hq
   have hw := wsum_get wFile x.fFiles h
   have hr : okFileAt x k = (okFile x.fSchema x.fFiles[k] && (!decide (x.fNextID ≤ x.fFiles[k].fID) && upAt x.fFiles k)) := by unfold okFileAt; rw [List.getElem?_eq_getElem h]
   have q0 := @h; have q1 := @decide_true; have q2 := @decide_false; refine w3_1 (specFile_ok x.fSchema x.fFiles[k] (by unfold wFieldS; omega) (by omega)) ?_
   cases hm : okFile x.fSchema x.fFiles[k]
   ·rw [hm] at hr
    simp only [go_sem, hm]
    have q0 := @h; have q1 := @decide_true; have q2 := @decide_false; have q3 := @hm; refine w4_0 ?_
    have hf : okStore x = false := by
     unfold okStore
     rw [hq, hr]; simp
    exact retK_ret ⟨⟨_, rfl, by simp only [go_sem, hf]⟩, trivial⟩
   ·rw [hm] at hr
    simp only [go_sem, hm]
    have q0 := @h; have q1 := @decide_true; have q2 := @decide_false; have q3 := @hm; refine w4_1 (specFile_ok x.fSchema x.fFiles[k] (by unfold wFieldS; omega) (by omega)) ?_
    by_cases hn : x.fNextID ≤ x.fFiles[k].fID
    ·simp only [hn, decide_true] at hr
     simp only [go_sem, hn, decide_true]
     have q0 := @h; have q1 := @decide_true; have q2 := @decide_false; have q3 := @hm; have q4 := @hn; refine w5_0 ?_
     have hf : okStore x = false := by
      unfold okStore
      rw [hq, hr]; simp
     exact retK_ret ⟨⟨_, rfl, by simp only [go_sem, hf]⟩, trivial⟩
    ·simp only [hn, decide_false] at hr
     simp only [go_sem, hn, decide_false]
     have q0 := @h; have q1 := @decide_true; have q2 := @decide_false; have q3 := @hm; have q4 := @hn; refine w5_1 (specFile_ok x.fSchema x.fFiles[k] (by unfold wFieldS; omega) (by omega)) ?_
     by_cases hk0 : 0 < k
     ·have hki : (0 : Int) < (k : Int) := by omega
      have hkx : (k : Int) - 1 = ((k - 1 : Nat) : Int) := by omega
      have hkl : k - 1 < x.fFiles.length := by omega
      rw [upAt_pos x.fFiles k hk0 h] at hr
      simp only [go_sem, hki, hkx, hkl, decide_true]
      have q0 := @h; have q1 := @decide_true; have q2 := @decide_false; have q3 := @hm; have q4 := @hn; have q5 := @hki; have q6 := @hkx; have q7 := @hkl; refine w8_1 (specFile_ok x.fSchema x.fFiles[k] (by unfold wFieldS; omega) (by omega)) ?_
      by_cases ho : x.fFiles[k].fID ≤ x.fFiles[k - 1].fID
      ·simp only [ho, decide_true] at hr
       simp only [go_sem, ho, decide_true]
       have q0 := @h; have q1 := @decide_true; have q2 := @decide_false; have q3 := @hm; have q4 := @hn; have q5 := @hki; have q6 := @hkx; have q7 := @hkl; have q8 := @ho; refine w9_0 ?_
       have hf : okStore x = false := by
        unfold okStore
        rw [hq, hr]; simp
       exact retK_ret ⟨⟨_, rfl, by simp only [go_sem, hf]⟩, trivial⟩
      ·simp only [ho, decide_false] at hr
       simp only [go_sem, ho, decide_false]
       have q0 := @h; have q1 := @decide_true; have q2 := @decide_false; have q3 := @hm; have q4 := @hn; have q5 := @hki; have q6 := @hkx; have q7 := @hkl; have q8 := @ho; refine w9_1 (specFile_ok x.fSchema x.fFiles[k] (by unfold wFieldS; omega) (by omega)) ?_
       refine L_next (k + 1) ?_ ?_ ?_
       ·simp only [go_sem]; simp
       ·refine ⟨h, ?_⟩
        rw [hq, hr]; simp
       ·omega
     ·have hki : ¬ (0 : Int) < (k : Int) := by omega
      rw [upAt_0 x.fFiles k hk0] at hr
      simp only [go_sem, hki, decide_false]
      have q0 := @h; have q1 := @decide_true; have q2 := @decide_false; have q3 := @hm; have q4 := @hn; have q5 := @hki; refine w6_1 (specFile_ok x.fSchema x.fFiles[k] (by unfold wFieldS; omega) (by omega)) ?_
      refine L_next (k + 1) ?_ ?_ ?_
      ·simp only [go_sem]; simp
      ·refine ⟨h, ?_⟩
       rw [hq, hr]; simp
      ·omega
  ·simp only [decide_eq_false_iff_not] at h
   have e : k = x.fFiles.length := by omega
   have hq' : (List.range x.fFiles.length).all (okFileAt x) = true := by
    rw [hq, List.drop_of_length_le (by simp [e])]; rfl
   have hr : okStore x = (okSchema x.fSchema && (decide ((x.fFiles.length : Int) ≤ 12) && inB x.fNextID 1 61)) := by unfold okStore; rw [hq']; simp only [Bool.true_and]
   have q0 := @decide_true; have q1 := @decide_false; refine w2_2 (specSchema_ok x.fSchema (by unfold wFieldS; omega)) (l01In_ok x.fNextID 1 61) ?_
   cases h0 : okSchema x.fSchema
   ·rw [h0] at hr
    simp only [go_sem, h0]
    have q0 := @decide_true; have q1 := @decide_false; have q2 := @h0; refine w3_0 ?_
    exact retK_ret ⟨⟨_, rfl, by simp only [go_sem, hr, Bool.and_true, Bool.and_false, Bool.true_and, Bool.false_and, Bool.not_true, Bool.not_false, decide_true, decide_false]⟩, trivial⟩
   ·rw [h0] at hr
    simp only [go_sem, h0]
    have q0 := @decide_true; have q1 := @decide_false; have q2 := @h0; refine w3_2 (specSchema_ok x.fSchema (by unfold wFieldS; omega)) (l01In_ok x.fNextID 1 61) ?_
    by_cases h1 : (x.fFiles.length : Int) ≤ 12
    ·simp only [h1, decide_true] at hr
     simp only [go_sem, h1, decide_true]
     have q0 := @decide_true; have q1 := @decide_false; have q2 := @h0; have q3 := @h1; refine w4_2 (specSchema_ok x.fSchema (by unfold wFieldS; omega)) (l01In_ok x.fNextID 1 61) ?_
     exact retK_ret ⟨⟨_, rfl, by simp only [go_sem, hr, Bool.and_true, Bool.and_false, Bool.true_and, Bool.false_and, Bool.not_true, Bool.not_false, decide_true, decide_false]⟩, trivial⟩
    ·simp only [h1, decide_false] at hr
     simp only [go_sem, h1, decide_false]
     have q0 := @decide_true; have q1 := @decide_false; have q2 := @h0; have q3 := @h1; refine w4_0 ?_
     exact retK_ret ⟨⟨_, rfl, by simp only [go_sem, hr, Bool.and_true, Bool.and_false, Bool.true_and, Bool.false_and, Bool.not_true, Bool.not_false, decide_true, decide_false]⟩, trivial⟩
theorem specVDirs_ok (d : List TDir) (hd : wDirS d ≤ 4300000) : FnC Tryz.prog 155 [.o (.d (.sl (d.map encDir)))] (ob (okDirs d)) := by
 unfold wDirS at hd
 refine ent Tryz.func155 rfl Tryz.call155 rfl (fun C => ?_); simp only [go_sem, st0, Tryz.ntmps155]
 refine w0_0 ?_
 refine WP_lp (α := Nat) (fun k => [(3, oi k)]) (fun _ => []) (fun k => k ≤ d.length ∧ (List.range d.length).all (okDirAt d) = ((List.range d.length).drop k).all (okDirAt d)) (fun k => d.length - k) 0 (fun _ => ?_) ?_ ?_ (fun k hk => ?_)
 ·simp only [go_sem]
 ·simp only [go_sem]; simp
 ·simp
 ·obtain ⟨hk, hq⟩ := hk
  simp only [go_sem]
  refine w0_0 ?_
  refine cnd rfl (fun h => ?_) (fun h => ?_)
  ·simp only [decide_eq_true_eq, Int.ofNat_lt] at h
   have h' : k < (List.range d.length).length := by simpa using h
   have hd := List.drop_eq_getElem_cons h'
   rw [hd, List.all_cons, List.getElem_range] at hq
   have hw := wsum_get wDir d h
   have hw1 : d[k].fName.size + wNodeS d[k].fQuery ≤ wDir d[k] := by unfold wDir; omega
   have hr : okDirAt d k = (isText d[k].fName 6 && (okQ d[k].fQuery && ordAt TDir.fName d k)) := by unfold okDirAt; rw [List.getElem?_eq_getElem h, Bool.and_comm (okQ d[k].fQuery)]
   have q0 := @h; have q1 := @decide_true; have q2 := @decide_false; refine w3_2 (specIsValidString_ok d[k].fName (by omega)) (specIsValidQuery_ok d[k].fQuery (by omega)) ?_
   cases ht : isText d[k].fName 6
   ·rw [ht] at hr
    simp only [go_sem, ht]
    have q0 := @h; have q1 := @decide_true; have q2 := @decide_false; have q3 := @ht; refine w4_0 ?_
    have hf : okDirs d = false := by
     unfold okDirs
     rw [hq, hr]; simp
    exact retK_ret ⟨⟨_, rfl, by simp only [go_sem, hf]⟩, trivial⟩
   ·rw [ht] at hr
    simp only [go_sem, ht]
    have q0 := @h; have q1 := @decide_true; have q2 := @decide_false; have q3 := @ht; refine w4_2 (specIsValidString_ok d[k].fName (by omega)) (specIsValidQuery_ok d[k].fQuery (by omega)) ?_
    cases hv : okQ d[k].fQuery
    ·rw [hv] at hr
     simp only [go_sem, hv]
     have q0 := @h; have q1 := @decide_true; have q2 := @decide_false; have q3 := @ht; have q4 := @hv; refine w5_0 ?_
     have hf : okDirs d = false := by
      unfold okDirs
      rw [hq, hr]; simp
     exact retK_ret ⟨⟨_, rfl, by simp only [go_sem, hf]⟩, trivial⟩
    ·rw [hv] at hr
     simp only [go_sem, hv]
     have q0 := @h; have q1 := @decide_true; have q2 := @decide_false; have q3 := @ht; have q4 := @hv; refine w5_2 (specIsValidString_ok d[k].fName (by omega)) (specIsValidQuery_ok d[k].fQuery (by omega)) ?_
     by_cases hk0 : 0 < k
     ·have hki : (0 : Int) < (k : Int) := by omega
      have hkx : (k : Int) - 1 = ((k - 1 : Nat) : Int) := by omega
      have hkl : k - 1 < d.length := by omega
      rw [ordAt_pos TDir.fName d k hk0 h] at hr
      simp only [go_sem, hki, hkx, hkl, decide_true]
      have q0 := @h; have q1 := @decide_true; have q2 := @decide_false; have q3 := @ht; have q4 := @hv; have q5 := @hki; have q6 := @hkx; have q7 := @hkl; refine w8_2 (specIsValidString_ok d[k].fName (by omega)) (specIsValidQuery_ok d[k].fQuery (by omega)) ?_
      cases ho : strLt (TDir.fName d[k - 1]) (TDir.fName d[k])
      ·rw [ho] at hr
       simp only [go_sem, ho]
       have q0 := @h; have q1 := @decide_true; have q2 := @decide_false; have q3 := @ht; have q4 := @hv; have q5 := @hki; have q6 := @hkx; have q7 := @hkl; have q8 := @ho; refine w9_0 ?_
       have hf : okDirs d = false := by
        unfold okDirs
        rw [hq, hr]; simp
       exact retK_ret ⟨⟨_, rfl, by simp only [go_sem, hf]⟩, trivial⟩
      ·rw [ho] at hr
       simp only [go_sem, ho]
       have q0 := @h; have q1 := @decide_true; have q2 := @decide_false; have q3 := @ht; have q4 := @hv; have q5 := @hki; have q6 := @hkx; have q7 := @hkl; have q8 := @ho; refine w9_2 (specIsValidString_ok d[k].fName (by omega)) (specIsValidQuery_ok d[k].fQuery (by omega)) ?_
       refine L_next (k + 1) ?_ ?_ ?_
       ·simp only [go_sem]; simp
       ·refine ⟨h, ?_⟩
        rw [hq, hr]; simp
       ·omega
     ·have hki : ¬ (0 : Int) < (k : Int) := by omega
      rw [ordAt_0 TDir.fName d k hk0] at hr
      simp only [go_sem, hki, decide_false]
      have q0 := @h; have q1 := @decide_true; have q2 := @decide_false; have q3 := @ht; have q4 := @hv; have q5 := @hki; refine w6_2 (specIsValidString_ok d[k].fName (by omega)) (specIsValidQuery_ok d[k].fQuery (by omega)) ?_
      refine L_next (k + 1) ?_ ?_ ?_
      ·simp only [go_sem]; simp
      ·refine ⟨h, ?_⟩
       rw [hq, hr]; simp
      ·omega
  ·simp only [decide_eq_false_iff_not] at h
   have e : k = d.length := by omega
   have hq' : (List.range d.length).all (okDirAt d) = true := by
    rw [hq, List.drop_of_length_le (by simp [e])]; rfl
   have hr : okDirs d = decide ((d.length : Int) ≤ 5) := by unfold okDirs; rw [hq']; simp only [Bool.true_and]
   have q0 := @decide_true; have q1 := @decide_false; refine w2_0 ?_
   exact retK_ret ⟨⟨_, rfl, by simp only [go_sem, hr, Bool.and_true, Bool.and_false, Bool.true_and, Bool.false_and, Bool.not_true, Bool.not_false, decide_true, decide_false]⟩, trivial⟩
end Go.Proofs.YtddimbdeggomaaaGreat
end
section
namespace Go.Proofs
open Go.Shelf
def Tryz.laysSortStr_ren : Go.Shelf.Ren := ⟨fun | 190 => 273 | 125 => 306 | 258 => 305 | 128 => 327 | 129 => 328 | 302 => 318 | 303 => 319 | 304 => 320 | 305 => 321 | 306 => 322 | 307 => 323 | 308 => 324 | 309 => 325 | 310 => 326 | 333 => 333 | 329 => 334 | 330 => 335 | 334 => 336 | 335 => 337 | 336 => 338 | 344 => 339 | n => n, fun | 31 => 28 | 9 => 9 | 3 => 3 | 46 => 279 | 0 => 0 | 51 => 296 | 53 => 298 | 4 => 4 | 183 => 289 | 182 => 288 | 131 => 283 | 5 => 5 | 218 => 301 | 222 => 305 | 228 => 307 | 229 => 308 | n => n, fun | n => n⟩
theorem Tryz.laysSortStr : Go.Proofs.Lays.n190 Tryz.prog Tryz.laysSortStr_ren := {
 mixed := by kernel_rfl
 f125 := Tryz.func306.trans (congrArg some (by kernel_rfl))
 f128 := Tryz.func327.trans (congrArg some (by kernel_rfl))
 f129 := Tryz.func328.trans (congrArg some (by kernel_rfl))
 f190 := Tryz.func273.trans (congrArg some (by kernel_rfl))
 f258 := Tryz.func305.trans (congrArg some (by kernel_rfl))
 f302 := Tryz.func318.trans (congrArg some (by kernel_rfl))
 f303 := Tryz.func319.trans (congrArg some (by kernel_rfl))
 f304 := Tryz.func320.trans (congrArg some (by kernel_rfl))
 f305 := Tryz.func321.trans (congrArg some (by kernel_rfl))
 f306 := Tryz.func322.trans (congrArg some (by kernel_rfl))
 f307 := Tryz.func323.trans (congrArg some (by kernel_rfl))
 f308 := Tryz.func324.trans (congrArg some (by kernel_rfl))
 f309 := Tryz.func325.trans (congrArg some (by kernel_rfl))
 f310 := Tryz.func326.trans (congrArg some (by kernel_rfl))
 f329 := Tryz.func334.trans (congrArg some (by kernel_rfl))
 f330 := Tryz.func335.trans (congrArg some (by kernel_rfl))
 f333 := Tryz.func333.trans (congrArg some (by kernel_rfl))
 f334 := Tryz.func336.trans (congrArg some (by kernel_rfl))
 f335 := Tryz.func337.trans (congrArg some (by kernel_rfl))
 f336 := Tryz.func338.trans (congrArg some (by kernel_rfl))
 f344 := Tryz.func339.trans (congrArg some (by kernel_rfl))
 t0 := Tryz.underlying0
 a0 := Tryz.isAgg0
 z0 := Tryz.sizeOf0
 v0 := Tryz.zeroValue0
 t3 := Tryz.underlying3
 a3 := Tryz.isAgg3
 z3 := Tryz.sizeOf3
 v3 := Tryz.zeroValue3
 t4 := Tryz.underlying4
 a4 := Tryz.isAgg4
 z4 := Tryz.sizeOf4
 v4 := Tryz.zeroValue4
 t5 := Tryz.underlying5
 a5 := Tryz.isAgg5
 z5 := Tryz.sizeOf5
 v5 := Tryz.zeroValue5
 t9 := Tryz.underlying9
 a9 := Tryz.isAgg9
 z9 := Tryz.sizeOf9
 v9 := Tryz.zeroValue9
 t31 := Tryz.underlying28
 a31 := Tryz.isAgg28
 z31 := Tryz.sizeOf28
 v31 := Tryz.zeroValue28
 t46 := Tryz.underlying279
 a46 := Tryz.isAgg279
 z46 := Tryz.sizeOf279
 v46 := Tryz.zeroValue279
 t51 := Tryz.underlying296
 a51 := Tryz.isAgg296
 z51 := Tryz.sizeOf296
 v51 := Tryz.zeroValue296
 t53 := Tryz.underlying298
 a53 := Tryz.isAgg298
 z53 := Tryz.sizeOf298
 v53 := Tryz.zeroValue298
 t131 := Tryz.underlying283
 a131 := Tryz.isAgg283
 z131 := Tryz.sizeOf283
 v131 := Tryz.zeroValue283
 t182 := Tryz.underlying288
 a182 := Tryz.isAgg288
 z182 := Tryz.sizeOf288
 v182 := Tryz.zeroValue288
 t183 := Tryz.underlying289
 a183 := Tryz.isAgg289
 z183 := Tryz.sizeOf289
 v183 := Tryz.zeroValue289
 t218 := Tryz.underlying301
 a218 := Tryz.isAgg301
 z218 := Tryz.sizeOf301
 v218 := Tryz.zeroValue301
 t222 := Tryz.underlying305
 a222 := Tryz.isAgg305
 z222 := Tryz.sizeOf305
 v222 := Tryz.zeroValue305
 t228 := Tryz.underlying307
 a228 := Tryz.isAgg307
 z228 := Tryz.sizeOf307
 v228 := Tryz.zeroValue307
 t229 := Tryz.underlying308
 a229 := Tryz.isAgg308
 z229 := Tryz.sizeOf308
 v229 := Tryz.zeroValue308 }
def Tryz.laysCompactStr_ren : Go.Shelf.Ren := ⟨fun | 194 => 274 | n => n, fun | 31 => 28 | 9 => 9 | 3 => 3 | 4 => 4 | 0 => 0 | n => n, fun | n => n⟩
theorem Tryz.laysCompactStr : Go.Proofs.Lays.n194 Tryz.prog Tryz.laysCompactStr_ren := {
 mixed := by kernel_rfl
 f194 := Tryz.func274.trans (congrArg some (by kernel_rfl))
 t0 := Tryz.underlying0
 a0 := Tryz.isAgg0
 z0 := Tryz.sizeOf0
 v0 := Tryz.zeroValue0
 t3 := Tryz.underlying3
 a3 := Tryz.isAgg3
 z3 := Tryz.sizeOf3
 v3 := Tryz.zeroValue3
 t4 := Tryz.underlying4
 a4 := Tryz.isAgg4
 z4 := Tryz.sizeOf4
 v4 := Tryz.zeroValue4
 t9 := Tryz.underlying9
 a9 := Tryz.isAgg9
 z9 := Tryz.sizeOf9
 v9 := Tryz.zeroValue9
 t31 := Tryz.underlying28
 a31 := Tryz.isAgg28
 z31 := Tryz.sizeOf28
 v31 := Tryz.zeroValue28 }
end Go.Proofs
end
