/-
  IsValidSchema, MatchesSchema, IsValidFile, IsValidStore, IsValidDirs: both of each.
-/
import Derived.Test.YtgglopecipbbfaaGreatH21Query
set_option linter.all false
set_option maxRecDepth 100000
set_option maxHeartbeats 4000000
namespace Go.Proofs.YtgglopecipbbfaaGreat
open Go Go.Sx Go.RowKit Go.Proofs

def ordAt {α : Type} (g : α → ByteArray) (l : List α) (k : Nat) : Bool := decide (k = 0) || (match l[k - 1]?, l[k]? with
  | some p, some x => strLt (g p) (g x)
  | _, _ => true)
theorem ordAt_0 {α : Type} (g : α → ByteArray) (l : List α) (k : Nat) (h : ¬ 0 < k) : ordAt g l k = true := by
  have e : k = 0 := by omega
  simp [ordAt, e]
theorem ordAt_pos {α : Type} (g : α → ByteArray) (l : List α) (k : Nat) (h : 0 < k) (hl : k < l.length) : ordAt g l k = strLt (g (l[k - 1]'(by omega))) (g l[k]) := by
  have h1 : k - 1 < l.length := by omega
  have e : ¬ k = 0 := by omega
  simp [ordAt, e, List.getElem?_eq_getElem h1, List.getElem?_eq_getElem hl]
def upAt (l : List TFile) (k : Nat) : Bool := decide (k = 0) || (match l[k - 1]?, l[k]? with
  | some p, some x => !decide (x.fID ≤ p.fID)
  | _, _ => true)
theorem upAt_0 (l : List TFile) (k : Nat) (h : ¬ 0 < k) : upAt l k = true := by
  have e : k = 0 := by omega
  simp [upAt, e]
theorem upAt_pos (l : List TFile) (k : Nat) (h : 0 < k) (hl : k < l.length) : upAt l k = !decide (l[k].fID ≤ (l[k - 1]'(by omega)).fID) := by
  have h1 : k - 1 < l.length := by omega
  have e : ¬ k = 0 := by omega
  simp only [upAt, e, decide_false, Bool.false_or, List.getElem?_eq_getElem h1, List.getElem?_eq_getElem hl]
def fieldKind (s : ByteArray) : List TField → Int
  | [] => 0
  | f :: l => if f.fName = s then f.fKind else fieldKind s l
theorem fieldKind_drop (s : ByteArray) (l : List TField) (k : Nat) (h : k < l.length) : fieldKind s (l.drop k) = if l[k].fName = s then l[k].fKind else fieldKind s (l.drop (k + 1)) := by
  rw [List.drop_eq_getElem_cons h]; rfl
def okFieldAt (s : List TField) (k : Nat) : Bool := match s[k]? with
  | none => true
  | some f => isText f.fName 1 && (inB f.fKind 1 2 && ordAt TField.fName s k)
def okSchema (s : List TField) : Bool := (List.range s.length).all (okFieldAt s) && decide ((s.length : Int) ≤ 5)
def matchS (s : List TField) (n : ByteArray) (v : TValue) : Bool := okVal v && (!decide (v.fKind = 0) && decide (v.fKind = fieldKind n s))
def okAttrAt (s : List TField) (l : List TAttr) (k : Nat) : Bool := match l[k]? with
  | none => true
  | some a => ordAt TAttr.fName l k && matchS s a.fName a.fValue
def okFile (s : List TField) (f : TFile) : Bool := (List.range f.fAttrs.length).all (okAttrAt s f.fAttrs) && (inB f.fID 1 60 && (inB f.fOwner 0 2 && (inB f.fLink 0 60 && okSchema s)))
def okFileAt (x : TStore) (k : Nat) : Bool := match x.fFiles[k]? with
  | none => true
  | some f => okFile x.fSchema f && (!decide (x.fNextID ≤ f.fID) && upAt x.fFiles k)
def okStore (x : TStore) : Bool := (List.range x.fFiles.length).all (okFileAt x) && (okSchema x.fSchema && (decide ((x.fFiles.length : Int) ≤ 12) && inB x.fNextID 1 61))
def okDirAt (d : List TDir) (k : Nat) : Bool := match d[k]? with
  | none => true
  | some x => isText x.fName 6 && (ordAt TDir.fName d k && okQ x.fQuery)
def okDirs (d : List TDir) : Bool := (List.range d.length).all (okDirAt d) && decide ((d.length : Int) ≤ 5)

theorem implFieldKind_ok (l : List TField) (s : ByteArray) (hl : l.length ≤ 4300000) : FnC Tryz.prog 294 [.o (.d (.sl (l.map encField))), os s] (oi (fieldKind s l)) := by
  generalize hg : fieldKind s l = res
  refine ent Tryz.func294 rfl Tryz.call294 rfl (fun C => ?_); simp only [go_sem, st0, Tryz.ntmps294]
  repeat' (with_reducible first | refine nY ?_ | (refine mX ?_; try simp only [go_sem]) | refine kO ?_ (by decide) | refine regd (by kernel_rfl) ?_ | (refine And.intro ?_ ?_; focus omega))
  refine WP_lp (α := Nat) (fun k => [(9, oi k)]) (fun k => []) (fun k => k ≤ l.length ∧ fieldKind s (l.drop k) = res) (fun k => l.length - k) 0 (fun _ => ?_) ?_ ?_ (fun k hk => ?_)
  · simp only [go_sem]
  · simp only [go_sem]; simp
  · simp [hg]
  · simp only [go_sem]
    obtain ⟨hk, hq⟩ := hk
    repeat' (with_reducible first | refine nY ?_ | (refine mX ?_; try simp only [go_sem]) | refine kO ?_ (by decide) | refine regd (by kernel_rfl) ?_ | (refine And.intro ?_ ?_; focus omega))
    refine cnd rfl (fun h1 => ?_) (fun h1 => ?_)
    · simp only [decide_eq_true_eq, Int.ofNat_lt] at h1
      rw [fieldKind_drop s l k h1] at hq
      by_cases hv : l[k].fName = s
      · rw [if_pos hv] at hq
        repeat' (with_reducible first | refine nY ?_ | (refine mX ?_; try simp only [go_sem, h1, hv, decide_true]) | refine kO ?_ (by decide) | refine regd (by kernel_rfl) ?_ | (refine And.intro ?_ ?_; focus omega))
        exact retK_ret ⟨⟨_, rfl, by simp only [go_sem, hq]⟩, trivial⟩
      · rw [if_neg hv] at hq
        repeat' (with_reducible first | refine nY ?_ | (refine mX ?_; try simp only [go_sem, h1, hv, decide_false]) | refine kO ?_ (by decide) | refine regd (by kernel_rfl) ?_ | (refine And.intro ?_ ?_; focus omega))
        refine L_next (k + 1) ?_ ?_ ?_
        · simp only [go_sem]; simp
        · exact ⟨by omega, hq⟩
        · omega
    · simp only [decide_eq_false_iff_not] at h1
      have e : k = l.length := by omega
      subst e
      rw [List.drop_length] at hq
      have hn : res = 0 := hq.symm
      subst hn
      repeat' (with_reducible first | refine nY ?_ | (refine mX ?_; try simp only [go_sem]) | refine kO ?_ (by decide) | refine regd (by kernel_rfl) ?_ | (refine And.intro ?_ ?_; focus omega))
      exact retK_ret ⟨⟨_, rfl, by simp only [go_sem]⟩, trivial⟩
theorem implMatches_ok (s : List TField) (n : ByteArray) (v : TValue) (hl : s.length ≤ 4300000) (hs : v.fStr.size ≤ 4300000) : FnC Tryz.prog 252 [.o (.d (.sl (s.map encField))), os n, gValue v] (ob (matchS s n v)) := by
  have hr : matchS s n v = (okVal v && (!decide (v.fKind = 0) && decide (v.fKind = fieldKind n s))) := rfl
  refine ent Tryz.func252 rfl Tryz.call252 rfl (fun C => ?_); simp only [go_sem, st0, Tryz.ntmps252]
  repeat' (with_reducible first | refine nY ?_ | (refine mX ?_; try simp only [go_sem, decide_true, decide_false]) | refine kO ?_ (by decide) | refine regd (by kernel_rfl) ?_ | (refine cC (implIsValidValue_ok v hs) ?_ ?_; focus simp only [go_sem, and_self]; done) | (refine cC (implFieldKind_ok s n hl) ?_ ?_; focus simp only [go_sem, and_self]; done) | (refine And.intro ?_ ?_; focus omega))
  cases hv : okVal v
  · rw [hv] at hr
    simp only [go_sem, hv]
    repeat' (with_reducible first | refine nY ?_ | (refine mX ?_; try simp only [go_sem, decide_true, decide_false, hv]) | refine kO ?_ (by decide) | refine regd (by kernel_rfl) ?_ | (refine And.intro ?_ ?_; focus omega))
    exact retK_ret ⟨⟨_, rfl, by simp only [go_sem, hr, Bool.and_true, Bool.and_false, Bool.true_and, Bool.false_and, Bool.not_true, Bool.not_false, decide_true, decide_false]⟩, trivial⟩
  · rw [hv] at hr
    simp only [go_sem, hv]
    repeat' (with_reducible first | refine nY ?_ | (refine mX ?_; try simp only [go_sem, decide_true, decide_false, hv]) | refine kO ?_ (by decide) | refine regd (by kernel_rfl) ?_ | (refine cC (implIsValidValue_ok v hs) ?_ ?_; focus simp only [go_sem, and_self]; done) | (refine cC (implFieldKind_ok s n hl) ?_ ?_; focus simp only [go_sem, and_self]; done) | (refine And.intro ?_ ?_; focus omega))
    by_cases hk : v.fKind = 0
    · simp only [hk, decide_true] at hr
      simp only [go_sem, hk, decide_true]
      repeat' (with_reducible first | refine nY ?_ | (refine mX ?_; try simp only [go_sem, decide_true, decide_false, hv, hk]) | refine kO ?_ (by decide) | refine regd (by kernel_rfl) ?_ | (refine And.intro ?_ ?_; focus omega))
      exact retK_ret ⟨⟨_, rfl, by simp only [go_sem, hr, Bool.and_true, Bool.and_false, Bool.true_and, Bool.false_and, Bool.not_true, Bool.not_false, decide_true, decide_false]⟩, trivial⟩
    · simp only [hk, decide_false] at hr
      simp only [go_sem, hk, decide_false]
      repeat' (with_reducible first | refine nY ?_ | (refine mX ?_; try simp only [go_sem, decide_true, decide_false, hv, hk]) | refine kO ?_ (by decide) | refine regd (by kernel_rfl) ?_ | (refine cC (implIsValidValue_ok v hs) ?_ ?_; focus simp only [go_sem, and_self]; done) | (refine cC (implFieldKind_ok s n hl) ?_ ?_; focus simp only [go_sem, and_self]; done) | (refine And.intro ?_ ?_; focus omega))
      exact retK_ret ⟨⟨_, rfl, by simp only [go_sem, hr, Bool.and_true, Bool.and_false, Bool.true_and, Bool.false_and, Bool.not_true, Bool.not_false, decide_true, decide_false]⟩, trivial⟩
theorem implSchema_ok (s : List TField) (hl : wFieldS s ≤ 4300000) : FnC Tryz.prog 243 [.o (.d (.sl (s.map encField)))] (ob (okSchema s)) := by
  unfold wFieldS at hl
  refine ent Tryz.func243 rfl Tryz.call243 rfl (fun C => ?_); simp only [go_sem, st0, Tryz.ntmps243]
  repeat' (with_reducible first | refine nY ?_ | (refine mX ?_; try simp only [go_sem]) | refine kO ?_ (by decide) | refine regd (by kernel_rfl) ?_ | (refine And.intro ?_ ?_; focus omega))
  refine WP_lp (α := Nat) (fun k => [(7, oi k)]) (fun _ => []) (fun k => k ≤ s.length ∧ (List.range s.length).all (okFieldAt s) = ((List.range s.length).drop k).all (okFieldAt s)) (fun k => s.length - k) 0 (fun _ => ?_) ?_ ?_ (fun k hk => ?_)
  · simp only [go_sem]
  · simp only [go_sem]; simp
  · simp
  · obtain ⟨hk, hq⟩ := hk
    simp only [go_sem]
    repeat' (with_reducible first | refine nY ?_ | (refine mX ?_; try simp only [go_sem]) | refine kO ?_ (by decide) | refine regd (by kernel_rfl) ?_ | (refine And.intro ?_ ?_; focus omega))
    refine cnd rfl (fun h => ?_) (fun h => ?_)
    · simp only [decide_eq_true_eq, Int.ofNat_lt] at h
      have h' : k < (List.range s.length).length := by simpa using h
      have hd := List.drop_eq_getElem_cons h'
      rw [hd, List.all_cons, List.getElem_range] at hq
      have hw := wsum_get wField s h
      have hw1 : s[k].fName.size ≤ wField s[k] := by unfold wField; omega
      have hr : okFieldAt s k = (isText s[k].fName 1 && (inB s[k].fKind 1 2 && ordAt TField.fName s k)) := by unfold okFieldAt; rw [List.getElem?_eq_getElem h]
      repeat' (with_reducible first | refine nY ?_ | (refine mX ?_; try simp only [go_sem, h, decide_true, decide_false]) | refine kO ?_ (by decide) | refine regd (by kernel_rfl) ?_ | (refine cC (implIsValidAttrName_ok s[k].fName) ?_ ?_; focus simp only [go_sem, and_self]; done) | (refine And.intro ?_ ?_; focus omega))
      cases ht : isText s[k].fName 1
      · rw [ht] at hr
        simp only [go_sem, ht]
        repeat' (with_reducible first | refine nY ?_ | (refine mX ?_; try simp only [go_sem, h, decide_true, decide_false, ht]) | refine kO ?_ (by decide) | refine regd (by kernel_rfl) ?_ | (refine And.intro ?_ ?_; focus omega))
        have hf : okSchema s = false := by
          unfold okSchema
          rw [hq, hr]; simp
        exact retK_ret ⟨⟨_, rfl, by simp only [go_sem, hf]⟩, trivial⟩
      · rw [ht] at hr
        simp only [go_sem, ht]
        repeat' (with_reducible first | refine nY ?_ | (refine mX ?_; try simp only [go_sem, h, decide_true, decide_false, ht]) | refine kO ?_ (by decide) | refine regd (by kernel_rfl) ?_ | (refine cC (implIsValidAttrName_ok s[k].fName) ?_ ?_; focus simp only [go_sem, and_self]; done) | (refine And.intro ?_ ?_; focus omega))
        cases hb : inB s[k].fKind 1 2
        · rw [hb] at hr
          have hb2 : ¬ (1 ≤ s[k].fKind ∧ s[k].fKind ≤ 2) := by intro hx; simp [inB, hx.1, hx.2] at hb
          have k1 : ¬ s[k].fKind = 1 := by omega
          have k2 : ¬ s[k].fKind = 2 := by omega
          simp only [go_sem, k1, k2, decide_false]
          repeat' (with_reducible first | refine nY ?_ | (refine mX ?_; try simp only [go_sem, h, decide_true, decide_false, ht, k1, k2]) | refine kO ?_ (by decide) | refine regd (by kernel_rfl) ?_ | (refine And.intro ?_ ?_; focus omega))
          have hf : okSchema s = false := by
            unfold okSchema
            rw [hq, hr]; simp
          exact retK_ret ⟨⟨_, rfl, by simp only [go_sem, hf]⟩, trivial⟩
        · rw [hb] at hr
          have hb2 : 1 ≤ s[k].fKind ∧ s[k].fKind ≤ 2 := by simpa [inB] using hb
          by_cases k1 : s[k].fKind = 1
          · simp only [go_sem, k1, decide_true]
            repeat' (with_reducible first | refine nY ?_ | (refine mX ?_; try simp only [go_sem, h, decide_true, decide_false, ht, k1]) | refine kO ?_ (by decide) | refine regd (by kernel_rfl) ?_ | (refine cC (implIsValidAttrName_ok s[k].fName) ?_ ?_; focus simp only [go_sem, and_self]; done) | (refine And.intro ?_ ?_; focus omega))
            by_cases hk0 : 0 < k
            · have hki : (0 : Int) < (k : Int) := by omega
              have hkx : (k : Int) - 1 = ((k - 1 : Nat) : Int) := by omega
              have hkl : k - 1 < s.length := by omega
              rw [ordAt_pos TField.fName s k hk0 h] at hr
              simp only [go_sem, hki, hkx, hkl, decide_true]
              repeat' (with_reducible first | refine nY ?_ | (refine mX ?_; try simp only [go_sem, h, decide_true, decide_false, ht, k1, hki, hkx, hkl]) | refine kO ?_ (by decide) | refine regd (by kernel_rfl) ?_ | (refine cC (implIsValidAttrName_ok s[k].fName) ?_ ?_; focus simp only [go_sem, and_self]; done) | (refine And.intro ?_ ?_; focus omega))
              cases ho : strLt (TField.fName s[k - 1]) (TField.fName s[k])
              · rw [ho] at hr
                simp only [go_sem, ho]
                repeat' (with_reducible first | refine nY ?_ | (refine mX ?_; try simp only [go_sem, h, decide_true, decide_false, ht, k1, hki, hkx, hkl, ho]) | refine kO ?_ (by decide) | refine regd (by kernel_rfl) ?_ | (refine And.intro ?_ ?_; focus omega))
                have hf : okSchema s = false := by
                  unfold okSchema
                  rw [hq, hr]; simp
                exact retK_ret ⟨⟨_, rfl, by simp only [go_sem, hf]⟩, trivial⟩
              · rw [ho] at hr
                simp only [go_sem, ho]
                repeat' (with_reducible first | refine nY ?_ | (refine mX ?_; try simp only [go_sem, h, decide_true, decide_false, ht, k1, hki, hkx, hkl, ho]) | refine kO ?_ (by decide) | refine regd (by kernel_rfl) ?_ | (refine cC (implIsValidAttrName_ok s[k].fName) ?_ ?_; focus simp only [go_sem, and_self]; done) | (refine And.intro ?_ ?_; focus omega))
                refine L_next (k + 1) ?_ ?_ ?_
                · simp only [go_sem]; simp
                · refine ⟨h, ?_⟩
                  rw [hq, hr]; simp
                · omega
            · have hki : ¬ (0 : Int) < (k : Int) := by omega
              rw [ordAt_0 TField.fName s k hk0] at hr
              simp only [go_sem, hki, decide_false]
              repeat' (with_reducible first | refine nY ?_ | (refine mX ?_; try simp only [go_sem, h, decide_true, decide_false, ht, k1, hki]) | refine kO ?_ (by decide) | refine regd (by kernel_rfl) ?_ | (refine cC (implIsValidAttrName_ok s[k].fName) ?_ ?_; focus simp only [go_sem, and_self]; done) | (refine And.intro ?_ ?_; focus omega))
              refine L_next (k + 1) ?_ ?_ ?_
              · simp only [go_sem]; simp
              · refine ⟨h, ?_⟩
                rw [hq, hr]; simp
              · omega
          · have k2 : s[k].fKind = 2 := by omega
            simp only [go_sem, k1, k2, decide_true, decide_false]
            repeat' (with_reducible first | refine nY ?_ | (refine mX ?_; try simp only [go_sem, h, decide_true, decide_false, ht, k1, k2]) | refine kO ?_ (by decide) | refine regd (by kernel_rfl) ?_ | (refine cC (implIsValidAttrName_ok s[k].fName) ?_ ?_; focus simp only [go_sem, and_self]; done) | (refine And.intro ?_ ?_; focus omega))
            by_cases hk0 : 0 < k
            · have hki : (0 : Int) < (k : Int) := by omega
              have hkx : (k : Int) - 1 = ((k - 1 : Nat) : Int) := by omega
              have hkl : k - 1 < s.length := by omega
              rw [ordAt_pos TField.fName s k hk0 h] at hr
              simp only [go_sem, hki, hkx, hkl, decide_true]
              repeat' (with_reducible first | refine nY ?_ | (refine mX ?_; try simp only [go_sem, h, decide_true, decide_false, ht, k1, k2, hki, hkx, hkl]) | refine kO ?_ (by decide) | refine regd (by kernel_rfl) ?_ | (refine cC (implIsValidAttrName_ok s[k].fName) ?_ ?_; focus simp only [go_sem, and_self]; done) | (refine And.intro ?_ ?_; focus omega))
              cases ho : strLt (TField.fName s[k - 1]) (TField.fName s[k])
              · rw [ho] at hr
                simp only [go_sem, ho]
                repeat' (with_reducible first | refine nY ?_ | (refine mX ?_; try simp only [go_sem, h, decide_true, decide_false, ht, k1, k2, hki, hkx, hkl, ho]) | refine kO ?_ (by decide) | refine regd (by kernel_rfl) ?_ | (refine And.intro ?_ ?_; focus omega))
                have hf : okSchema s = false := by
                  unfold okSchema
                  rw [hq, hr]; simp
                exact retK_ret ⟨⟨_, rfl, by simp only [go_sem, hf]⟩, trivial⟩
              · rw [ho] at hr
                simp only [go_sem, ho]
                repeat' (with_reducible first | refine nY ?_ | (refine mX ?_; try simp only [go_sem, h, decide_true, decide_false, ht, k1, k2, hki, hkx, hkl, ho]) | refine kO ?_ (by decide) | refine regd (by kernel_rfl) ?_ | (refine cC (implIsValidAttrName_ok s[k].fName) ?_ ?_; focus simp only [go_sem, and_self]; done) | (refine And.intro ?_ ?_; focus omega))
                refine L_next (k + 1) ?_ ?_ ?_
                · simp only [go_sem]; simp
                · refine ⟨h, ?_⟩
                  rw [hq, hr]; simp
                · omega
            · have hki : ¬ (0 : Int) < (k : Int) := by omega
              rw [ordAt_0 TField.fName s k hk0] at hr
              simp only [go_sem, hki, decide_false]
              repeat' (with_reducible first | refine nY ?_ | (refine mX ?_; try simp only [go_sem, h, decide_true, decide_false, ht, k1, k2, hki]) | refine kO ?_ (by decide) | refine regd (by kernel_rfl) ?_ | (refine cC (implIsValidAttrName_ok s[k].fName) ?_ ?_; focus simp only [go_sem, and_self]; done) | (refine And.intro ?_ ?_; focus omega))
              refine L_next (k + 1) ?_ ?_ ?_
              · simp only [go_sem]; simp
              · refine ⟨h, ?_⟩
                rw [hq, hr]; simp
              · omega
    · simp only [decide_eq_false_iff_not] at h
      have e : k = s.length := by omega
      have hq' : (List.range s.length).all (okFieldAt s) = true := by
        rw [hq, List.drop_of_length_le (by simp [e])]; rfl
      have hr : okSchema s = decide ((s.length : Int) ≤ 5) := by unfold okSchema; rw [hq']; simp only [Bool.true_and]
      repeat' (with_reducible first | refine nY ?_ | (refine mX ?_; try simp only [go_sem, decide_true, decide_false]) | refine kO ?_ (by decide) | refine regd (by kernel_rfl) ?_ | (refine And.intro ?_ ?_; focus omega))
      exact retK_ret ⟨⟨_, rfl, by simp only [go_sem, hr, Bool.and_true, Bool.and_false, Bool.true_and, Bool.false_and, Bool.not_true, Bool.not_false, decide_true, decide_false]⟩, trivial⟩
theorem isUser_ok (n : Int) : FnC Tryz.prog 148 [oi n] (ob (inB n 0 2)) := by
  refine ent Tryz.func148 rfl Tryz.call148 rfl (fun C => ?_); simp only [go_sem, st0, Tryz.ntmps148]
  repeat' (with_reducible first | refine nY ?_ | (refine mX ?_; try simp only [go_sem]) | refine kO ?_ (by decide) | refine regd (by kernel_rfl) ?_ | (refine cC (within_ok n 0 2) ?_ ?_; focus simp only [go_sem, and_self]; done) | (refine And.intro ?_ ?_; focus omega))
  exact retK_ret ⟨⟨_, rfl, by simp only [go_sem]⟩, trivial⟩
theorem implFile_ok (s : List TField) (f : TFile) (hl : wFieldS s ≤ 4300000) (hf : wFile f ≤ 4300000) : FnC Tryz.prog 185 [.o (.d (.sl (s.map encField))), gFile f] (ob (okFile s f)) := by
  unfold wFieldS at hl
  unfold wFile wAttrS at hf
  refine ent Tryz.func185 rfl Tryz.call185 rfl (fun C => ?_); simp only [go_sem, st0, Tryz.ntmps185]
  repeat' (with_reducible first | refine nY ?_ | (refine mX ?_; try simp only [go_sem]) | refine kO ?_ (by decide) | refine regd (by kernel_rfl) ?_ | (refine And.intro ?_ ?_; focus omega))
  refine WP_lp (α := Nat) (fun k => [(10, oi k)]) (fun _ => []) (fun k => k ≤ f.fAttrs.length ∧ (List.range f.fAttrs.length).all (okAttrAt s f.fAttrs) = ((List.range f.fAttrs.length).drop k).all (okAttrAt s f.fAttrs)) (fun k => f.fAttrs.length - k) 0 (fun _ => ?_) ?_ ?_ (fun k hk => ?_)
  · simp only [go_sem]
  · simp only [go_sem]; simp
  · simp
  · obtain ⟨hk, hq⟩ := hk
    simp only [go_sem]
    repeat' (with_reducible first | refine nY ?_ | (refine mX ?_; try simp only [go_sem]) | refine kO ?_ (by decide) | refine regd (by kernel_rfl) ?_ | (refine And.intro ?_ ?_; focus omega))
    refine cnd rfl (fun h => ?_) (fun h => ?_)
    · simp only [decide_eq_true_eq, Int.ofNat_lt] at h
      have h' : k < (List.range f.fAttrs.length).length := by simpa using h
      have hd := List.drop_eq_getElem_cons h'
      rw [hd, List.all_cons, List.getElem_range] at hq
      have hw := wsum_get wAttr f.fAttrs h
      have hw1 : f.fAttrs[k].fName.size + f.fAttrs[k].fValue.fStr.size ≤ wAttr f.fAttrs[k] := by unfold wAttr wValue; omega
      have hr : okAttrAt s f.fAttrs k = (ordAt TAttr.fName f.fAttrs k && matchS s f.fAttrs[k].fName f.fAttrs[k].fValue) := by unfold okAttrAt; rw [List.getElem?_eq_getElem h]
      repeat' (with_reducible first | refine nY ?_ | (refine mX ?_; try simp only [go_sem, h, decide_true, decide_false]) | refine kO ?_ (by decide) | refine regd (by kernel_rfl) ?_ | (refine cC (implMatches_ok s f.fAttrs[k].fName f.fAttrs[k].fValue (by omega) (by omega)) ?_ ?_; focus simp only [go_sem, and_self]; done) | (refine And.intro ?_ ?_; focus omega))
      by_cases hk0 : 0 < k
      · have hki : (0 : Int) < (k : Int) := by omega
        have hkx : (k : Int) - 1 = ((k - 1 : Nat) : Int) := by omega
        have hkl : k - 1 < f.fAttrs.length := by omega
        rw [ordAt_pos TAttr.fName f.fAttrs k hk0 h] at hr
        simp only [go_sem, hki, hkx, hkl, decide_true]
        repeat' (with_reducible first | refine nY ?_ | (refine mX ?_; try simp only [go_sem, h, decide_true, decide_false, hki, hkx, hkl]) | refine kO ?_ (by decide) | refine regd (by kernel_rfl) ?_ | (refine cC (implMatches_ok s f.fAttrs[k].fName f.fAttrs[k].fValue (by omega) (by omega)) ?_ ?_; focus simp only [go_sem, and_self]; done) | (refine And.intro ?_ ?_; focus omega))
        cases ho : strLt (TAttr.fName f.fAttrs[k - 1]) (TAttr.fName f.fAttrs[k])
        · rw [ho] at hr
          simp only [go_sem, ho]
          repeat' (with_reducible first | refine nY ?_ | (refine mX ?_; try simp only [go_sem, h, decide_true, decide_false, hki, hkx, hkl, ho]) | refine kO ?_ (by decide) | refine regd (by kernel_rfl) ?_ | (refine And.intro ?_ ?_; focus omega))
          have hf : okFile s f = false := by
            unfold okFile
            rw [hq, hr]; simp
          exact retK_ret ⟨⟨_, rfl, by simp only [go_sem, hf]⟩, trivial⟩
        · rw [ho] at hr
          simp only [go_sem, ho]
          repeat' (with_reducible first | refine nY ?_ | (refine mX ?_; try simp only [go_sem, h, decide_true, decide_false, hki, hkx, hkl, ho]) | refine kO ?_ (by decide) | refine regd (by kernel_rfl) ?_ | (refine cC (implMatches_ok s f.fAttrs[k].fName f.fAttrs[k].fValue (by omega) (by omega)) ?_ ?_; focus simp only [go_sem, and_self]; done) | (refine And.intro ?_ ?_; focus omega))
          cases hm : matchS s f.fAttrs[k].fName f.fAttrs[k].fValue
          · rw [hm] at hr
            simp only [go_sem, hm]
            repeat' (with_reducible first | refine nY ?_ | (refine mX ?_; try simp only [go_sem, h, decide_true, decide_false, hki, hkx, hkl, ho, hm]) | refine kO ?_ (by decide) | refine regd (by kernel_rfl) ?_ | (refine And.intro ?_ ?_; focus omega))
            have hf : okFile s f = false := by
              unfold okFile
              rw [hq, hr]; simp
            exact retK_ret ⟨⟨_, rfl, by simp only [go_sem, hf]⟩, trivial⟩
          · rw [hm] at hr
            simp only [go_sem, hm]
            repeat' (with_reducible first | refine nY ?_ | (refine mX ?_; try simp only [go_sem, h, decide_true, decide_false, hki, hkx, hkl, ho, hm]) | refine kO ?_ (by decide) | refine regd (by kernel_rfl) ?_ | (refine cC (implMatches_ok s f.fAttrs[k].fName f.fAttrs[k].fValue (by omega) (by omega)) ?_ ?_; focus simp only [go_sem, and_self]; done) | (refine And.intro ?_ ?_; focus omega))
            refine L_next (k + 1) ?_ ?_ ?_
            · simp only [go_sem]; simp
            · refine ⟨h, ?_⟩
              rw [hq, hr]; simp
            · omega
      · have hki : ¬ (0 : Int) < (k : Int) := by omega
        rw [ordAt_0 TAttr.fName f.fAttrs k hk0] at hr
        simp only [go_sem, hki, decide_false]
        repeat' (with_reducible first | refine nY ?_ | (refine mX ?_; try simp only [go_sem, h, decide_true, decide_false, hki]) | refine kO ?_ (by decide) | refine regd (by kernel_rfl) ?_ | (refine cC (implMatches_ok s f.fAttrs[k].fName f.fAttrs[k].fValue (by omega) (by omega)) ?_ ?_; focus simp only [go_sem, and_self]; done) | (refine And.intro ?_ ?_; focus omega))
        cases hm : matchS s f.fAttrs[k].fName f.fAttrs[k].fValue
        · rw [hm] at hr
          simp only [go_sem, hm]
          repeat' (with_reducible first | refine nY ?_ | (refine mX ?_; try simp only [go_sem, h, decide_true, decide_false, hki, hm]) | refine kO ?_ (by decide) | refine regd (by kernel_rfl) ?_ | (refine And.intro ?_ ?_; focus omega))
          have hf : okFile s f = false := by
            unfold okFile
            rw [hq, hr]; simp
          exact retK_ret ⟨⟨_, rfl, by simp only [go_sem, hf]⟩, trivial⟩
        · rw [hm] at hr
          simp only [go_sem, hm]
          repeat' (with_reducible first | refine nY ?_ | (refine mX ?_; try simp only [go_sem, h, decide_true, decide_false, hki, hm]) | refine kO ?_ (by decide) | refine regd (by kernel_rfl) ?_ | (refine cC (implMatches_ok s f.fAttrs[k].fName f.fAttrs[k].fValue (by omega) (by omega)) ?_ ?_; focus simp only [go_sem, and_self]; done) | (refine And.intro ?_ ?_; focus omega))
          refine L_next (k + 1) ?_ ?_ ?_
          · simp only [go_sem]; simp
          · refine ⟨h, ?_⟩
            rw [hq, hr]; simp
          · omega
    · simp only [decide_eq_false_iff_not] at h
      have e : k = f.fAttrs.length := by omega
      have hq' : (List.range f.fAttrs.length).all (okAttrAt s f.fAttrs) = true := by
        rw [hq, List.drop_of_length_le (by simp [e])]; rfl
      have hr : okFile s f = (inB f.fID 1 60 && (inB f.fOwner 0 2 && (inB f.fLink 0 60 && okSchema s))) := by unfold okFile; rw [hq']; simp only [Bool.true_and]
      repeat' (with_reducible first | refine nY ?_ | (refine mX ?_; try simp only [go_sem, decide_true, decide_false]) | refine kO ?_ (by decide) | refine regd (by kernel_rfl) ?_ | (refine cC (within_ok f.fID 1 60) ?_ ?_; focus simp only [go_sem, and_self]; done) | (refine cC (isUser_ok f.fOwner) ?_ ?_; focus simp only [go_sem, and_self]; done) | (refine cC (within_ok f.fLink 0 60) ?_ ?_; focus simp only [go_sem, and_self]; done) | (refine cC (implSchema_ok s (by unfold wFieldS; omega)) ?_ ?_; focus simp only [go_sem, and_self]; done) | (refine And.intro ?_ ?_; focus omega))
      cases h1 : inB f.fID 1 60
      · rw [h1] at hr
        simp only [go_sem, h1]
        repeat' (with_reducible first | refine nY ?_ | (refine mX ?_; try simp only [go_sem, decide_true, decide_false, h1]) | refine kO ?_ (by decide) | refine regd (by kernel_rfl) ?_ | (refine And.intro ?_ ?_; focus omega))
        exact retK_ret ⟨⟨_, rfl, by simp only [go_sem, hr, Bool.and_true, Bool.and_false, Bool.true_and, Bool.false_and, Bool.not_true, Bool.not_false, decide_true, decide_false]⟩, trivial⟩
      · rw [h1] at hr
        simp only [go_sem, h1]
        repeat' (with_reducible first | refine nY ?_ | (refine mX ?_; try simp only [go_sem, decide_true, decide_false, h1]) | refine kO ?_ (by decide) | refine regd (by kernel_rfl) ?_ | (refine cC (within_ok f.fID 1 60) ?_ ?_; focus simp only [go_sem, and_self]; done) | (refine cC (isUser_ok f.fOwner) ?_ ?_; focus simp only [go_sem, and_self]; done) | (refine cC (within_ok f.fLink 0 60) ?_ ?_; focus simp only [go_sem, and_self]; done) | (refine cC (implSchema_ok s (by unfold wFieldS; omega)) ?_ ?_; focus simp only [go_sem, and_self]; done) | (refine And.intro ?_ ?_; focus omega))
        cases h2 : inB f.fOwner 0 2
        · rw [h2] at hr
          simp only [go_sem, h2]
          repeat' (with_reducible first | refine nY ?_ | (refine mX ?_; try simp only [go_sem, decide_true, decide_false, h1, h2]) | refine kO ?_ (by decide) | refine regd (by kernel_rfl) ?_ | (refine And.intro ?_ ?_; focus omega))
          exact retK_ret ⟨⟨_, rfl, by simp only [go_sem, hr, Bool.and_true, Bool.and_false, Bool.true_and, Bool.false_and, Bool.not_true, Bool.not_false, decide_true, decide_false]⟩, trivial⟩
        · rw [h2] at hr
          simp only [go_sem, h2]
          repeat' (with_reducible first | refine nY ?_ | (refine mX ?_; try simp only [go_sem, decide_true, decide_false, h1, h2]) | refine kO ?_ (by decide) | refine regd (by kernel_rfl) ?_ | (refine cC (within_ok f.fID 1 60) ?_ ?_; focus simp only [go_sem, and_self]; done) | (refine cC (isUser_ok f.fOwner) ?_ ?_; focus simp only [go_sem, and_self]; done) | (refine cC (within_ok f.fLink 0 60) ?_ ?_; focus simp only [go_sem, and_self]; done) | (refine cC (implSchema_ok s (by unfold wFieldS; omega)) ?_ ?_; focus simp only [go_sem, and_self]; done) | (refine And.intro ?_ ?_; focus omega))
          cases h3 : inB f.fLink 0 60
          · rw [h3] at hr
            simp only [go_sem, h3]
            repeat' (with_reducible first | refine nY ?_ | (refine mX ?_; try simp only [go_sem, decide_true, decide_false, h1, h2, h3]) | refine kO ?_ (by decide) | refine regd (by kernel_rfl) ?_ | (refine And.intro ?_ ?_; focus omega))
            exact retK_ret ⟨⟨_, rfl, by simp only [go_sem, hr, Bool.and_true, Bool.and_false, Bool.true_and, Bool.false_and, Bool.not_true, Bool.not_false, decide_true, decide_false]⟩, trivial⟩
          · rw [h3] at hr
            simp only [go_sem, h3]
            repeat' (with_reducible first | refine nY ?_ | (refine mX ?_; try simp only [go_sem, decide_true, decide_false, h1, h2, h3]) | refine kO ?_ (by decide) | refine regd (by kernel_rfl) ?_ | (refine cC (within_ok f.fID 1 60) ?_ ?_; focus simp only [go_sem, and_self]; done) | (refine cC (isUser_ok f.fOwner) ?_ ?_; focus simp only [go_sem, and_self]; done) | (refine cC (within_ok f.fLink 0 60) ?_ ?_; focus simp only [go_sem, and_self]; done) | (refine cC (implSchema_ok s (by unfold wFieldS; omega)) ?_ ?_; focus simp only [go_sem, and_self]; done) | (refine And.intro ?_ ?_; focus omega))
            exact retK_ret ⟨⟨_, rfl, by simp only [go_sem, hr, Bool.and_true, Bool.and_false, Bool.true_and, Bool.false_and, Bool.not_true, Bool.not_false, decide_true, decide_false]⟩, trivial⟩
theorem implStore_ok (x : TStore) (hx : wStore x ≤ 4300000) : FnC Tryz.prog 163 [gStore x] (ob (okStore x)) := by
  unfold wStore wFieldS wFileS at hx
  refine ent Tryz.func163 rfl Tryz.call163 rfl (fun C => ?_); simp only [go_sem, st0, Tryz.ntmps163]
  repeat' (with_reducible first | refine nY ?_ | (refine mX ?_; try simp only [go_sem]) | refine kO ?_ (by decide) | refine regd (by kernel_rfl) ?_ | (refine And.intro ?_ ?_; focus omega))
  refine WP_lp (α := Nat) (fun k => [(8, oi k)]) (fun _ => []) (fun k => k ≤ x.fFiles.length ∧ (List.range x.fFiles.length).all (okFileAt x) = ((List.range x.fFiles.length).drop k).all (okFileAt x)) (fun k => x.fFiles.length - k) 0 (fun _ => ?_) ?_ ?_ (fun k hk => ?_)
  · simp only [go_sem]
  · simp only [go_sem]; simp
  · simp
  · obtain ⟨hk, hq⟩ := hk
    simp only [go_sem]
    repeat' (with_reducible first | refine nY ?_ | (refine mX ?_; try simp only [go_sem]) | refine kO ?_ (by decide) | refine regd (by kernel_rfl) ?_ | (refine And.intro ?_ ?_; focus omega))
    refine cnd rfl (fun h => ?_) (fun h => ?_)
    · simp only [decide_eq_true_eq, Int.ofNat_lt] at h
      have h' : k < (List.range x.fFiles.length).length := by simpa using h
      have hd := List.drop_eq_getElem_cons h'
      rw [hd, List.all_cons, List.getElem_range] at hq
      have hw := wsum_get wFile x.fFiles h
      have hr : okFileAt x k = (okFile x.fSchema x.fFiles[k] && (!decide (x.fNextID ≤ x.fFiles[k].fID) && upAt x.fFiles k)) := by unfold okFileAt; rw [List.getElem?_eq_getElem h]
      repeat' (with_reducible first | refine nY ?_ | (refine mX ?_; try simp only [go_sem, h, decide_true, decide_false]) | refine kO ?_ (by decide) | refine regd (by kernel_rfl) ?_ | (refine cC (implFile_ok x.fSchema x.fFiles[k] (by unfold wFieldS; omega) (by omega)) ?_ ?_; focus simp only [go_sem, and_self]; done) | (refine And.intro ?_ ?_; focus omega))
      cases hm : okFile x.fSchema x.fFiles[k]
      · rw [hm] at hr
        simp only [go_sem, hm]
        repeat' (with_reducible first | refine nY ?_ | (refine mX ?_; try simp only [go_sem, h, decide_true, decide_false, hm]) | refine kO ?_ (by decide) | refine regd (by kernel_rfl) ?_ | (refine And.intro ?_ ?_; focus omega))
        have hf : okStore x = false := by
          unfold okStore
          rw [hq, hr]; simp
        exact retK_ret ⟨⟨_, rfl, by simp only [go_sem, hf]⟩, trivial⟩
      · rw [hm] at hr
        simp only [go_sem, hm]
        repeat' (with_reducible first | refine nY ?_ | (refine mX ?_; try simp only [go_sem, h, decide_true, decide_false, hm]) | refine kO ?_ (by decide) | refine regd (by kernel_rfl) ?_ | (refine cC (implFile_ok x.fSchema x.fFiles[k] (by unfold wFieldS; omega) (by omega)) ?_ ?_; focus simp only [go_sem, and_self]; done) | (refine And.intro ?_ ?_; focus omega))
        by_cases hn : x.fNextID ≤ x.fFiles[k].fID
        · simp only [hn, decide_true] at hr
          simp only [go_sem, hn, decide_true]
          repeat' (with_reducible first | refine nY ?_ | (refine mX ?_; try simp only [go_sem, h, decide_true, decide_false, hm, hn]) | refine kO ?_ (by decide) | refine regd (by kernel_rfl) ?_ | (refine And.intro ?_ ?_; focus omega))
          have hf : okStore x = false := by
            unfold okStore
            rw [hq, hr]; simp
          exact retK_ret ⟨⟨_, rfl, by simp only [go_sem, hf]⟩, trivial⟩
        · simp only [hn, decide_false] at hr
          simp only [go_sem, hn, decide_false]
          repeat' (with_reducible first | refine nY ?_ | (refine mX ?_; try simp only [go_sem, h, decide_true, decide_false, hm, hn]) | refine kO ?_ (by decide) | refine regd (by kernel_rfl) ?_ | (refine cC (implFile_ok x.fSchema x.fFiles[k] (by unfold wFieldS; omega) (by omega)) ?_ ?_; focus simp only [go_sem, and_self]; done) | (refine And.intro ?_ ?_; focus omega))
          by_cases hk0 : 0 < k
          · have hki : (0 : Int) < (k : Int) := by omega
            have hkx : (k : Int) - 1 = ((k - 1 : Nat) : Int) := by omega
            have hkl : k - 1 < x.fFiles.length := by omega
            rw [upAt_pos x.fFiles k hk0 h] at hr
            simp only [go_sem, hki, hkx, hkl, decide_true]
            repeat' (with_reducible first | refine nY ?_ | (refine mX ?_; try simp only [go_sem, h, decide_true, decide_false, hm, hn, hki, hkx, hkl]) | refine kO ?_ (by decide) | refine regd (by kernel_rfl) ?_ | (refine cC (implFile_ok x.fSchema x.fFiles[k] (by unfold wFieldS; omega) (by omega)) ?_ ?_; focus simp only [go_sem, and_self]; done) | (refine And.intro ?_ ?_; focus omega))
            by_cases ho : x.fFiles[k].fID ≤ x.fFiles[k - 1].fID
            · simp only [ho, decide_true] at hr
              simp only [go_sem, ho, decide_true]
              repeat' (with_reducible first | refine nY ?_ | (refine mX ?_; try simp only [go_sem, h, decide_true, decide_false, hm, hn, hki, hkx, hkl, ho]) | refine kO ?_ (by decide) | refine regd (by kernel_rfl) ?_ | (refine And.intro ?_ ?_; focus omega))
              have hf : okStore x = false := by
                unfold okStore
                rw [hq, hr]; simp
              exact retK_ret ⟨⟨_, rfl, by simp only [go_sem, hf]⟩, trivial⟩
            · simp only [ho, decide_false] at hr
              simp only [go_sem, ho, decide_false]
              repeat' (with_reducible first | refine nY ?_ | (refine mX ?_; try simp only [go_sem, h, decide_true, decide_false, hm, hn, hki, hkx, hkl, ho]) | refine kO ?_ (by decide) | refine regd (by kernel_rfl) ?_ | (refine cC (implFile_ok x.fSchema x.fFiles[k] (by unfold wFieldS; omega) (by omega)) ?_ ?_; focus simp only [go_sem, and_self]; done) | (refine And.intro ?_ ?_; focus omega))
              refine L_next (k + 1) ?_ ?_ ?_
              · simp only [go_sem]; simp
              · refine ⟨h, ?_⟩
                rw [hq, hr]; simp
              · omega
          · have hki : ¬ (0 : Int) < (k : Int) := by omega
            rw [upAt_0 x.fFiles k hk0] at hr
            simp only [go_sem, hki, decide_false]
            repeat' (with_reducible first | refine nY ?_ | (refine mX ?_; try simp only [go_sem, h, decide_true, decide_false, hm, hn, hki]) | refine kO ?_ (by decide) | refine regd (by kernel_rfl) ?_ | (refine cC (implFile_ok x.fSchema x.fFiles[k] (by unfold wFieldS; omega) (by omega)) ?_ ?_; focus simp only [go_sem, and_self]; done) | (refine And.intro ?_ ?_; focus omega))
            refine L_next (k + 1) ?_ ?_ ?_
            · simp only [go_sem]; simp
            · refine ⟨h, ?_⟩
              rw [hq, hr]; simp
            · omega
    · simp only [decide_eq_false_iff_not] at h
      have e : k = x.fFiles.length := by omega
      have hq' : (List.range x.fFiles.length).all (okFileAt x) = true := by
        rw [hq, List.drop_of_length_le (by simp [e])]; rfl
      have hr : okStore x = (okSchema x.fSchema && (decide ((x.fFiles.length : Int) ≤ 12) && inB x.fNextID 1 61)) := by unfold okStore; rw [hq']; simp only [Bool.true_and]
      repeat' (with_reducible first | refine nY ?_ | (refine mX ?_; try simp only [go_sem, decide_true, decide_false]) | refine kO ?_ (by decide) | refine regd (by kernel_rfl) ?_ | (refine cC (implSchema_ok x.fSchema (by unfold wFieldS; omega)) ?_ ?_; focus simp only [go_sem, and_self]; done) | (refine cC (within_ok x.fNextID 1 61) ?_ ?_; focus simp only [go_sem, and_self]; done) | (refine And.intro ?_ ?_; focus omega))
      cases h0 : okSchema x.fSchema
      · rw [h0] at hr
        simp only [go_sem, h0]
        repeat' (with_reducible first | refine nY ?_ | (refine mX ?_; try simp only [go_sem, decide_true, decide_false, h0]) | refine kO ?_ (by decide) | refine regd (by kernel_rfl) ?_ | (refine And.intro ?_ ?_; focus omega))
        exact retK_ret ⟨⟨_, rfl, by simp only [go_sem, hr, Bool.and_true, Bool.and_false, Bool.true_and, Bool.false_and, Bool.not_true, Bool.not_false, decide_true, decide_false]⟩, trivial⟩
      · rw [h0] at hr
        simp only [go_sem, h0]
        repeat' (with_reducible first | refine nY ?_ | (refine mX ?_; try simp only [go_sem, decide_true, decide_false, h0]) | refine kO ?_ (by decide) | refine regd (by kernel_rfl) ?_ | (refine cC (implSchema_ok x.fSchema (by unfold wFieldS; omega)) ?_ ?_; focus simp only [go_sem, and_self]; done) | (refine cC (within_ok x.fNextID 1 61) ?_ ?_; focus simp only [go_sem, and_self]; done) | (refine And.intro ?_ ?_; focus omega))
        by_cases h1 : (x.fFiles.length : Int) ≤ 12
        · simp only [h1, decide_true] at hr
          simp only [go_sem, h1, decide_true]
          repeat' (with_reducible first | refine nY ?_ | (refine mX ?_; try simp only [go_sem, decide_true, decide_false, h0, h1]) | refine kO ?_ (by decide) | refine regd (by kernel_rfl) ?_ | (refine cC (implSchema_ok x.fSchema (by unfold wFieldS; omega)) ?_ ?_; focus simp only [go_sem, and_self]; done) | (refine cC (within_ok x.fNextID 1 61) ?_ ?_; focus simp only [go_sem, and_self]; done) | (refine And.intro ?_ ?_; focus omega))
          exact retK_ret ⟨⟨_, rfl, by simp only [go_sem, hr, Bool.and_true, Bool.and_false, Bool.true_and, Bool.false_and, Bool.not_true, Bool.not_false, decide_true, decide_false]⟩, trivial⟩
        · simp only [h1, decide_false] at hr
          simp only [go_sem, h1, decide_false]
          repeat' (with_reducible first | refine nY ?_ | (refine mX ?_; try simp only [go_sem, decide_true, decide_false, h0, h1]) | refine kO ?_ (by decide) | refine regd (by kernel_rfl) ?_ | (refine And.intro ?_ ?_; focus omega))
          exact retK_ret ⟨⟨_, rfl, by simp only [go_sem, hr, Bool.and_true, Bool.and_false, Bool.true_and, Bool.false_and, Bool.not_true, Bool.not_false, decide_true, decide_false]⟩, trivial⟩
theorem implVDirs_ok (d : List TDir) (hd : wDirS d ≤ 4300000) : FnC Tryz.prog 202 [.o (.d (.sl (d.map encDir)))] (ob (okDirs d)) := by
  unfold wDirS at hd
  refine ent Tryz.func202 rfl Tryz.call202 rfl (fun C => ?_); simp only [go_sem, st0, Tryz.ntmps202]
  repeat' (with_reducible first | refine nY ?_ | (refine mX ?_; try simp only [go_sem]) | refine kO ?_ (by decide) | refine regd (by kernel_rfl) ?_ | (refine And.intro ?_ ?_; focus omega))
  refine WP_lp (α := Nat) (fun k => [(7, oi k)]) (fun _ => []) (fun k => k ≤ d.length ∧ (List.range d.length).all (okDirAt d) = ((List.range d.length).drop k).all (okDirAt d)) (fun k => d.length - k) 0 (fun _ => ?_) ?_ ?_ (fun k hk => ?_)
  · simp only [go_sem]
  · simp only [go_sem]; simp
  · simp
  · obtain ⟨hk, hq⟩ := hk
    simp only [go_sem]
    repeat' (with_reducible first | refine nY ?_ | (refine mX ?_; try simp only [go_sem]) | refine kO ?_ (by decide) | refine regd (by kernel_rfl) ?_ | (refine And.intro ?_ ?_; focus omega))
    refine cnd rfl (fun h => ?_) (fun h => ?_)
    · simp only [decide_eq_true_eq, Int.ofNat_lt] at h
      have h' : k < (List.range d.length).length := by simpa using h
      have hd := List.drop_eq_getElem_cons h'
      rw [hd, List.all_cons, List.getElem_range] at hq
      have hw := wsum_get wDir d h
      have hw1 : d[k].fName.size + wNodeS d[k].fQuery ≤ wDir d[k] := by unfold wDir; omega
      have hr : okDirAt d k = (isText d[k].fName 6 && (ordAt TDir.fName d k && okQ d[k].fQuery)) := by unfold okDirAt; rw [List.getElem?_eq_getElem h]
      repeat' (with_reducible first | refine nY ?_ | (refine mX ?_; try simp only [go_sem, h, decide_true, decide_false]) | refine kO ?_ (by decide) | refine regd (by kernel_rfl) ?_ | (refine cC (implIsValidString_ok d[k].fName (by omega)) ?_ ?_; focus simp only [go_sem, and_self]; done) | (refine cC (implIsValidQuery_ok d[k].fQuery (by omega)) ?_ ?_; focus simp only [go_sem, and_self]; done) | (refine And.intro ?_ ?_; focus omega))
      cases ht : isText d[k].fName 6
      · rw [ht] at hr
        simp only [go_sem, ht]
        repeat' (with_reducible first | refine nY ?_ | (refine mX ?_; try simp only [go_sem, h, decide_true, decide_false, ht]) | refine kO ?_ (by decide) | refine regd (by kernel_rfl) ?_ | (refine And.intro ?_ ?_; focus omega))
        have hf : okDirs d = false := by
          unfold okDirs
          rw [hq, hr]; simp
        exact retK_ret ⟨⟨_, rfl, by simp only [go_sem, hf]⟩, trivial⟩
      · rw [ht] at hr
        simp only [go_sem, ht]
        repeat' (with_reducible first | refine nY ?_ | (refine mX ?_; try simp only [go_sem, h, decide_true, decide_false, ht]) | refine kO ?_ (by decide) | refine regd (by kernel_rfl) ?_ | (refine cC (implIsValidString_ok d[k].fName (by omega)) ?_ ?_; focus simp only [go_sem, and_self]; done) | (refine cC (implIsValidQuery_ok d[k].fQuery (by omega)) ?_ ?_; focus simp only [go_sem, and_self]; done) | (refine And.intro ?_ ?_; focus omega))
        by_cases hk0 : 0 < k
        · have hki : (0 : Int) < (k : Int) := by omega
          have hkx : (k : Int) - 1 = ((k - 1 : Nat) : Int) := by omega
          have hkl : k - 1 < d.length := by omega
          rw [ordAt_pos TDir.fName d k hk0 h] at hr
          simp only [go_sem, hki, hkx, hkl, decide_true]
          repeat' (with_reducible first | refine nY ?_ | (refine mX ?_; try simp only [go_sem, h, decide_true, decide_false, ht, hki, hkx, hkl]) | refine kO ?_ (by decide) | refine regd (by kernel_rfl) ?_ | (refine cC (implIsValidString_ok d[k].fName (by omega)) ?_ ?_; focus simp only [go_sem, and_self]; done) | (refine cC (implIsValidQuery_ok d[k].fQuery (by omega)) ?_ ?_; focus simp only [go_sem, and_self]; done) | (refine And.intro ?_ ?_; focus omega))
          cases ho : strLt (TDir.fName d[k - 1]) (TDir.fName d[k])
          · rw [ho] at hr
            simp only [go_sem, ho]
            repeat' (with_reducible first | refine nY ?_ | (refine mX ?_; try simp only [go_sem, h, decide_true, decide_false, ht, hki, hkx, hkl, ho]) | refine kO ?_ (by decide) | refine regd (by kernel_rfl) ?_ | (refine And.intro ?_ ?_; focus omega))
            have hf : okDirs d = false := by
              unfold okDirs
              rw [hq, hr]; simp
            exact retK_ret ⟨⟨_, rfl, by simp only [go_sem, hf]⟩, trivial⟩
          · rw [ho] at hr
            simp only [go_sem, ho]
            repeat' (with_reducible first | refine nY ?_ | (refine mX ?_; try simp only [go_sem, h, decide_true, decide_false, ht, hki, hkx, hkl, ho]) | refine kO ?_ (by decide) | refine regd (by kernel_rfl) ?_ | (refine cC (implIsValidString_ok d[k].fName (by omega)) ?_ ?_; focus simp only [go_sem, and_self]; done) | (refine cC (implIsValidQuery_ok d[k].fQuery (by omega)) ?_ ?_; focus simp only [go_sem, and_self]; done) | (refine And.intro ?_ ?_; focus omega))
            cases hv : okQ d[k].fQuery
            · rw [hv] at hr
              simp only [go_sem, hv]
              repeat' (with_reducible first | refine nY ?_ | (refine mX ?_; try simp only [go_sem, h, decide_true, decide_false, ht, hki, hkx, hkl, ho, hv]) | refine kO ?_ (by decide) | refine regd (by kernel_rfl) ?_ | (refine And.intro ?_ ?_; focus omega))
              have hf : okDirs d = false := by
                unfold okDirs
                rw [hq, hr]; simp
              exact retK_ret ⟨⟨_, rfl, by simp only [go_sem, hf]⟩, trivial⟩
            · rw [hv] at hr
              simp only [go_sem, hv]
              repeat' (with_reducible first | refine nY ?_ | (refine mX ?_; try simp only [go_sem, h, decide_true, decide_false, ht, hki, hkx, hkl, ho, hv]) | refine kO ?_ (by decide) | refine regd (by kernel_rfl) ?_ | (refine cC (implIsValidString_ok d[k].fName (by omega)) ?_ ?_; focus simp only [go_sem, and_self]; done) | (refine cC (implIsValidQuery_ok d[k].fQuery (by omega)) ?_ ?_; focus simp only [go_sem, and_self]; done) | (refine And.intro ?_ ?_; focus omega))
              refine L_next (k + 1) ?_ ?_ ?_
              · simp only [go_sem]; simp
              · refine ⟨h, ?_⟩
                rw [hq, hr]; simp
              · omega
        · have hki : ¬ (0 : Int) < (k : Int) := by omega
          rw [ordAt_0 TDir.fName d k hk0] at hr
          simp only [go_sem, hki, decide_false]
          repeat' (with_reducible first | refine nY ?_ | (refine mX ?_; try simp only [go_sem, h, decide_true, decide_false, ht, hki]) | refine kO ?_ (by decide) | refine regd (by kernel_rfl) ?_ | (refine cC (implIsValidString_ok d[k].fName (by omega)) ?_ ?_; focus simp only [go_sem, and_self]; done) | (refine cC (implIsValidQuery_ok d[k].fQuery (by omega)) ?_ ?_; focus simp only [go_sem, and_self]; done) | (refine And.intro ?_ ?_; focus omega))
          cases hv : okQ d[k].fQuery
          · rw [hv] at hr
            simp only [go_sem, hv]
            repeat' (with_reducible first | refine nY ?_ | (refine mX ?_; try simp only [go_sem, h, decide_true, decide_false, ht, hki, hv]) | refine kO ?_ (by decide) | refine regd (by kernel_rfl) ?_ | (refine And.intro ?_ ?_; focus omega))
            have hf : okDirs d = false := by
              unfold okDirs
              rw [hq, hr]; simp
            exact retK_ret ⟨⟨_, rfl, by simp only [go_sem, hf]⟩, trivial⟩
          · rw [hv] at hr
            simp only [go_sem, hv]
            repeat' (with_reducible first | refine nY ?_ | (refine mX ?_; try simp only [go_sem, h, decide_true, decide_false, ht, hki, hv]) | refine kO ?_ (by decide) | refine regd (by kernel_rfl) ?_ | (refine cC (implIsValidString_ok d[k].fName (by omega)) ?_ ?_; focus simp only [go_sem, and_self]; done) | (refine cC (implIsValidQuery_ok d[k].fQuery (by omega)) ?_ ?_; focus simp only [go_sem, and_self]; done) | (refine And.intro ?_ ?_; focus omega))
            refine L_next (k + 1) ?_ ?_ ?_
            · simp only [go_sem]; simp
            · refine ⟨h, ?_⟩
              rw [hq, hr]; simp
            · omega
    · simp only [decide_eq_false_iff_not] at h
      have e : k = d.length := by omega
      have hq' : (List.range d.length).all (okDirAt d) = true := by
        rw [hq, List.drop_of_length_le (by simp [e])]; rfl
      have hr : okDirs d = decide ((d.length : Int) ≤ 5) := by unfold okDirs; rw [hq']; simp only [Bool.true_and]
      repeat' (with_reducible first | refine nY ?_ | (refine mX ?_; try simp only [go_sem, decide_true, decide_false]) | refine kO ?_ (by decide) | refine regd (by kernel_rfl) ?_ | (refine And.intro ?_ ?_; focus omega))
      exact retK_ret ⟨⟨_, rfl, by simp only [go_sem, hr, Bool.and_true, Bool.and_false, Bool.true_and, Bool.false_and, Bool.not_true, Bool.not_false, decide_true, decide_false]⟩, trivial⟩
theorem specFieldKind_ok (l : List TField) (s : ByteArray) (hl : l.length ≤ 4300000) : FnC Tryz.prog 288 [.o (.d (.sl (l.map encField))), os s] (oi (fieldKind s l)) := by
  generalize hg : fieldKind s l = res
  refine ent Tryz.func288 rfl Tryz.call288 rfl (fun C => ?_); simp only [go_sem, st0, Tryz.ntmps288]
  repeat' (with_reducible first | refine nY ?_ | (refine mX ?_; try simp only [go_sem]) | refine kO ?_ (by decide) | refine regd (by kernel_rfl) ?_ | (refine And.intro ?_ ?_; focus omega))
  refine WP_lp (α := Nat) (fun k => [(5, oi k)]) (fun k => []) (fun k => k ≤ l.length ∧ fieldKind s (l.drop k) = res) (fun k => l.length - k) 0 (fun _ => ?_) ?_ ?_ (fun k hk => ?_)
  · simp only [go_sem]
  · simp only [go_sem]; simp
  · simp [hg]
  · simp only [go_sem]
    obtain ⟨hk, hq⟩ := hk
    repeat' (with_reducible first | refine nY ?_ | (refine mX ?_; try simp only [go_sem]) | refine kO ?_ (by decide) | refine regd (by kernel_rfl) ?_ | (refine And.intro ?_ ?_; focus omega))
    refine cnd rfl (fun h1 => ?_) (fun h1 => ?_)
    · simp only [decide_eq_true_eq, Int.ofNat_lt] at h1
      rw [fieldKind_drop s l k h1] at hq
      by_cases hv : l[k].fName = s
      · rw [if_pos hv] at hq
        repeat' (with_reducible first | refine nY ?_ | (refine mX ?_; try simp only [go_sem, h1, hv, decide_true]) | refine kO ?_ (by decide) | refine regd (by kernel_rfl) ?_ | (refine And.intro ?_ ?_; focus omega))
        exact retK_ret ⟨⟨_, rfl, by simp only [go_sem, hq]⟩, trivial⟩
      · rw [if_neg hv] at hq
        repeat' (with_reducible first | refine nY ?_ | (refine mX ?_; try simp only [go_sem, h1, hv, decide_false]) | refine kO ?_ (by decide) | refine regd (by kernel_rfl) ?_ | (refine And.intro ?_ ?_; focus omega))
        refine L_next (k + 1) ?_ ?_ ?_
        · simp only [go_sem]; simp
        · exact ⟨by omega, hq⟩
        · omega
    · simp only [decide_eq_false_iff_not] at h1
      have e : k = l.length := by omega
      subst e
      rw [List.drop_length] at hq
      have hn : res = 0 := hq.symm
      subst hn
      repeat' (with_reducible first | refine nY ?_ | (refine mX ?_; try simp only [go_sem]) | refine kO ?_ (by decide) | refine regd (by kernel_rfl) ?_ | (refine And.intro ?_ ?_; focus omega))
      exact retK_ret ⟨⟨_, rfl, by simp only [go_sem]⟩, trivial⟩
theorem specMatches_ok (s : List TField) (n : ByteArray) (v : TValue) (hl : s.length ≤ 4300000) (hs : v.fStr.size ≤ 4300000) : FnC Tryz.prog 237 [.o (.d (.sl (s.map encField))), os n, gValue v] (ob (matchS s n v)) := by
  have hr : matchS s n v = (okVal v && (!decide (v.fKind = 0) && decide (v.fKind = fieldKind n s))) := rfl
  refine ent Tryz.func237 rfl Tryz.call237 rfl (fun C => ?_); simp only [go_sem, st0, Tryz.ntmps237]
  repeat' (with_reducible first | refine nY ?_ | (refine mX ?_; try simp only [go_sem, decide_true, decide_false]) | refine kO ?_ (by decide) | refine regd (by kernel_rfl) ?_ | (refine cC (specIsValidValue_ok v hs) ?_ ?_; focus simp only [go_sem, and_self]; done) | (refine cC (specFieldKind_ok s n hl) ?_ ?_; focus simp only [go_sem, and_self]; done) | (refine And.intro ?_ ?_; focus omega))
  cases hv : okVal v
  · rw [hv] at hr
    simp only [go_sem, hv]
    repeat' (with_reducible first | refine nY ?_ | (refine mX ?_; try simp only [go_sem, decide_true, decide_false, hv]) | refine kO ?_ (by decide) | refine regd (by kernel_rfl) ?_ | (refine And.intro ?_ ?_; focus omega))
    exact retK_ret ⟨⟨_, rfl, by simp only [go_sem, hr, Bool.and_true, Bool.and_false, Bool.true_and, Bool.false_and, Bool.not_true, Bool.not_false, decide_true, decide_false]⟩, trivial⟩
  · rw [hv] at hr
    simp only [go_sem, hv]
    repeat' (with_reducible first | refine nY ?_ | (refine mX ?_; try simp only [go_sem, decide_true, decide_false, hv]) | refine kO ?_ (by decide) | refine regd (by kernel_rfl) ?_ | (refine cC (specIsValidValue_ok v hs) ?_ ?_; focus simp only [go_sem, and_self]; done) | (refine cC (specFieldKind_ok s n hl) ?_ ?_; focus simp only [go_sem, and_self]; done) | (refine And.intro ?_ ?_; focus omega))
    by_cases hk : v.fKind = 0
    · simp only [hk, decide_true] at hr
      simp only [go_sem, hk, decide_true]
      repeat' (with_reducible first | refine nY ?_ | (refine mX ?_; try simp only [go_sem, decide_true, decide_false, hv, hk]) | refine kO ?_ (by decide) | refine regd (by kernel_rfl) ?_ | (refine And.intro ?_ ?_; focus omega))
      exact retK_ret ⟨⟨_, rfl, by simp only [go_sem, hr, Bool.and_true, Bool.and_false, Bool.true_and, Bool.false_and, Bool.not_true, Bool.not_false, decide_true, decide_false]⟩, trivial⟩
    · simp only [hk, decide_false] at hr
      simp only [go_sem, hk, decide_false]
      repeat' (with_reducible first | refine nY ?_ | (refine mX ?_; try simp only [go_sem, decide_true, decide_false, hv, hk]) | refine kO ?_ (by decide) | refine regd (by kernel_rfl) ?_ | (refine cC (specIsValidValue_ok v hs) ?_ ?_; focus simp only [go_sem, and_self]; done) | (refine cC (specFieldKind_ok s n hl) ?_ ?_; focus simp only [go_sem, and_self]; done) | (refine And.intro ?_ ?_; focus omega))
      exact retK_ret ⟨⟨_, rfl, by simp only [go_sem, hr, Bool.and_true, Bool.and_false, Bool.true_and, Bool.false_and, Bool.not_true, Bool.not_false, decide_true, decide_false]⟩, trivial⟩
theorem specSchema_ok (s : List TField) (hl : wFieldS s ≤ 4300000) : FnC Tryz.prog 158 [.o (.d (.sl (s.map encField)))] (ob (okSchema s)) := by
  unfold wFieldS at hl
  refine ent Tryz.func158 rfl Tryz.call158 rfl (fun C => ?_); simp only [go_sem, st0, Tryz.ntmps158]
  repeat' (with_reducible first | refine nY ?_ | (refine mX ?_; try simp only [go_sem]) | refine kO ?_ (by decide) | refine regd (by kernel_rfl) ?_ | (refine And.intro ?_ ?_; focus omega))
  refine WP_lp (α := Nat) (fun k => [(3, oi k)]) (fun _ => []) (fun k => k ≤ s.length ∧ (List.range s.length).all (okFieldAt s) = ((List.range s.length).drop k).all (okFieldAt s)) (fun k => s.length - k) 0 (fun _ => ?_) ?_ ?_ (fun k hk => ?_)
  · simp only [go_sem]
  · simp only [go_sem]; simp
  · simp
  · obtain ⟨hk, hq⟩ := hk
    simp only [go_sem]
    repeat' (with_reducible first | refine nY ?_ | (refine mX ?_; try simp only [go_sem]) | refine kO ?_ (by decide) | refine regd (by kernel_rfl) ?_ | (refine And.intro ?_ ?_; focus omega))
    refine cnd rfl (fun h => ?_) (fun h => ?_)
    · simp only [decide_eq_true_eq, Int.ofNat_lt] at h
      have h' : k < (List.range s.length).length := by simpa using h
      have hd := List.drop_eq_getElem_cons h'
      rw [hd, List.all_cons, List.getElem_range] at hq
      have hw := wsum_get wField s h
      have hw1 : s[k].fName.size ≤ wField s[k] := by unfold wField; omega
      have hr : okFieldAt s k = (isText s[k].fName 1 && (inB s[k].fKind 1 2 && ordAt TField.fName s k)) := by unfold okFieldAt; rw [List.getElem?_eq_getElem h]
      repeat' (with_reducible first | refine nY ?_ | (refine mX ?_; try simp only [go_sem, h, decide_true, decide_false]) | refine kO ?_ (by decide) | refine regd (by kernel_rfl) ?_ | (refine cC (specIsValidAttrName_ok s[k].fName (by omega)) ?_ ?_; focus simp only [go_sem, and_self]; done) | (refine cC (l01In_ok s[k].fKind 1 2) ?_ ?_; focus simp only [go_sem, and_self]; done) | (refine And.intro ?_ ?_; focus omega))
      cases ht : isText s[k].fName 1
      · rw [ht] at hr
        simp only [go_sem, ht]
        repeat' (with_reducible first | refine nY ?_ | (refine mX ?_; try simp only [go_sem, h, decide_true, decide_false, ht]) | refine kO ?_ (by decide) | refine regd (by kernel_rfl) ?_ | (refine And.intro ?_ ?_; focus omega))
        have hf : okSchema s = false := by
          unfold okSchema
          rw [hq, hr]; simp
        exact retK_ret ⟨⟨_, rfl, by simp only [go_sem, hf]⟩, trivial⟩
      · rw [ht] at hr
        simp only [go_sem, ht]
        repeat' (with_reducible first | refine nY ?_ | (refine mX ?_; try simp only [go_sem, h, decide_true, decide_false, ht]) | refine kO ?_ (by decide) | refine regd (by kernel_rfl) ?_ | (refine cC (specIsValidAttrName_ok s[k].fName (by omega)) ?_ ?_; focus simp only [go_sem, and_self]; done) | (refine cC (l01In_ok s[k].fKind 1 2) ?_ ?_; focus simp only [go_sem, and_self]; done) | (refine And.intro ?_ ?_; focus omega))
        cases hb : inB s[k].fKind 1 2
        · rw [hb] at hr
          simp only [go_sem, hb]
          repeat' (with_reducible first | refine nY ?_ | (refine mX ?_; try simp only [go_sem, h, decide_true, decide_false, ht, hb]) | refine kO ?_ (by decide) | refine regd (by kernel_rfl) ?_ | (refine And.intro ?_ ?_; focus omega))
          have hf : okSchema s = false := by
            unfold okSchema
            rw [hq, hr]; simp
          exact retK_ret ⟨⟨_, rfl, by simp only [go_sem, hf]⟩, trivial⟩
        · rw [hb] at hr
          simp only [go_sem, hb]
          repeat' (with_reducible first | refine nY ?_ | (refine mX ?_; try simp only [go_sem, h, decide_true, decide_false, ht, hb]) | refine kO ?_ (by decide) | refine regd (by kernel_rfl) ?_ | (refine cC (specIsValidAttrName_ok s[k].fName (by omega)) ?_ ?_; focus simp only [go_sem, and_self]; done) | (refine cC (l01In_ok s[k].fKind 1 2) ?_ ?_; focus simp only [go_sem, and_self]; done) | (refine And.intro ?_ ?_; focus omega))
          by_cases hk0 : 0 < k
          · have hki : (0 : Int) < (k : Int) := by omega
            have hkx : (k : Int) - 1 = ((k - 1 : Nat) : Int) := by omega
            have hkl : k - 1 < s.length := by omega
            rw [ordAt_pos TField.fName s k hk0 h] at hr
            simp only [go_sem, hki, hkx, hkl, decide_true]
            repeat' (with_reducible first | refine nY ?_ | (refine mX ?_; try simp only [go_sem, h, decide_true, decide_false, ht, hb, hki, hkx, hkl]) | refine kO ?_ (by decide) | refine regd (by kernel_rfl) ?_ | (refine cC (specIsValidAttrName_ok s[k].fName (by omega)) ?_ ?_; focus simp only [go_sem, and_self]; done) | (refine cC (l01In_ok s[k].fKind 1 2) ?_ ?_; focus simp only [go_sem, and_self]; done) | (refine And.intro ?_ ?_; focus omega))
            cases ho : strLt (TField.fName s[k - 1]) (TField.fName s[k])
            · rw [ho] at hr
              simp only [go_sem, ho]
              repeat' (with_reducible first | refine nY ?_ | (refine mX ?_; try simp only [go_sem, h, decide_true, decide_false, ht, hb, hki, hkx, hkl, ho]) | refine kO ?_ (by decide) | refine regd (by kernel_rfl) ?_ | (refine And.intro ?_ ?_; focus omega))
              have hf : okSchema s = false := by
                unfold okSchema
                rw [hq, hr]; simp
              exact retK_ret ⟨⟨_, rfl, by simp only [go_sem, hf]⟩, trivial⟩
            · rw [ho] at hr
              simp only [go_sem, ho]
              repeat' (with_reducible first | refine nY ?_ | (refine mX ?_; try simp only [go_sem, h, decide_true, decide_false, ht, hb, hki, hkx, hkl, ho]) | refine kO ?_ (by decide) | refine regd (by kernel_rfl) ?_ | (refine cC (specIsValidAttrName_ok s[k].fName (by omega)) ?_ ?_; focus simp only [go_sem, and_self]; done) | (refine cC (l01In_ok s[k].fKind 1 2) ?_ ?_; focus simp only [go_sem, and_self]; done) | (refine And.intro ?_ ?_; focus omega))
              refine L_next (k + 1) ?_ ?_ ?_
              · simp only [go_sem]; simp
              · refine ⟨h, ?_⟩
                rw [hq, hr]; simp
              · omega
          · have hki : ¬ (0 : Int) < (k : Int) := by omega
            rw [ordAt_0 TField.fName s k hk0] at hr
            simp only [go_sem, hki, decide_false]
            repeat' (with_reducible first | refine nY ?_ | (refine mX ?_; try simp only [go_sem, h, decide_true, decide_false, ht, hb, hki]) | refine kO ?_ (by decide) | refine regd (by kernel_rfl) ?_ | (refine cC (specIsValidAttrName_ok s[k].fName (by omega)) ?_ ?_; focus simp only [go_sem, and_self]; done) | (refine cC (l01In_ok s[k].fKind 1 2) ?_ ?_; focus simp only [go_sem, and_self]; done) | (refine And.intro ?_ ?_; focus omega))
            refine L_next (k + 1) ?_ ?_ ?_
            · simp only [go_sem]; simp
            · refine ⟨h, ?_⟩
              rw [hq, hr]; simp
            · omega
    · simp only [decide_eq_false_iff_not] at h
      have e : k = s.length := by omega
      have hq' : (List.range s.length).all (okFieldAt s) = true := by
        rw [hq, List.drop_of_length_le (by simp [e])]; rfl
      have hr : okSchema s = decide ((s.length : Int) ≤ 5) := by unfold okSchema; rw [hq']; simp only [Bool.true_and]
      repeat' (with_reducible first | refine nY ?_ | (refine mX ?_; try simp only [go_sem, decide_true, decide_false]) | refine kO ?_ (by decide) | refine regd (by kernel_rfl) ?_ | (refine And.intro ?_ ?_; focus omega))
      exact retK_ret ⟨⟨_, rfl, by simp only [go_sem, hr, Bool.and_true, Bool.and_false, Bool.true_and, Bool.false_and, Bool.not_true, Bool.not_false, decide_true, decide_false]⟩, trivial⟩
theorem specFile_ok (s : List TField) (f : TFile) (hl : wFieldS s ≤ 4300000) (hf : wFile f ≤ 4300000) : FnC Tryz.prog 157 [.o (.d (.sl (s.map encField))), gFile f] (ob (okFile s f)) := by
  unfold wFieldS at hl
  unfold wFile wAttrS at hf
  refine ent Tryz.func157 rfl Tryz.call157 rfl (fun C => ?_); simp only [go_sem, st0, Tryz.ntmps157]
  repeat' (with_reducible first | refine nY ?_ | (refine mX ?_; try simp only [go_sem]) | refine kO ?_ (by decide) | refine regd (by kernel_rfl) ?_ | (refine And.intro ?_ ?_; focus omega))
  refine WP_lp (α := Nat) (fun k => [(5, oi k)]) (fun _ => []) (fun k => k ≤ f.fAttrs.length ∧ (List.range f.fAttrs.length).all (okAttrAt s f.fAttrs) = ((List.range f.fAttrs.length).drop k).all (okAttrAt s f.fAttrs)) (fun k => f.fAttrs.length - k) 0 (fun _ => ?_) ?_ ?_ (fun k hk => ?_)
  · simp only [go_sem]
  · simp only [go_sem]; simp
  · simp
  · obtain ⟨hk, hq⟩ := hk
    simp only [go_sem]
    repeat' (with_reducible first | refine nY ?_ | (refine mX ?_; try simp only [go_sem]) | refine kO ?_ (by decide) | refine regd (by kernel_rfl) ?_ | (refine And.intro ?_ ?_; focus omega))
    refine cnd rfl (fun h => ?_) (fun h => ?_)
    · simp only [decide_eq_true_eq, Int.ofNat_lt] at h
      have h' : k < (List.range f.fAttrs.length).length := by simpa using h
      have hd := List.drop_eq_getElem_cons h'
      rw [hd, List.all_cons, List.getElem_range] at hq
      have hw := wsum_get wAttr f.fAttrs h
      have hw1 : f.fAttrs[k].fName.size + f.fAttrs[k].fValue.fStr.size ≤ wAttr f.fAttrs[k] := by unfold wAttr wValue; omega
      have hr : okAttrAt s f.fAttrs k = (matchS s f.fAttrs[k].fName f.fAttrs[k].fValue && ordAt TAttr.fName f.fAttrs k) := by unfold okAttrAt; rw [List.getElem?_eq_getElem h]; exact Bool.and_comm _ _
      repeat' (with_reducible first | refine nY ?_ | (refine mX ?_; try simp only [go_sem, h, decide_true, decide_false]) | refine kO ?_ (by decide) | refine regd (by kernel_rfl) ?_ | (refine cC (specMatches_ok s f.fAttrs[k].fName f.fAttrs[k].fValue (by omega) (by omega)) ?_ ?_; focus simp only [go_sem, and_self]; done) | (refine And.intro ?_ ?_; focus omega))
      cases hm : matchS s f.fAttrs[k].fName f.fAttrs[k].fValue
      · rw [hm] at hr
        simp only [go_sem, hm]
        repeat' (with_reducible first | refine nY ?_ | (refine mX ?_; try simp only [go_sem, h, decide_true, decide_false, hm]) | refine kO ?_ (by decide) | refine regd (by kernel_rfl) ?_ | (refine And.intro ?_ ?_; focus omega))
        have hf : okFile s f = false := by
          unfold okFile
          rw [hq, hr]; simp
        exact retK_ret ⟨⟨_, rfl, by simp only [go_sem, hf]⟩, trivial⟩
      · rw [hm] at hr
        simp only [go_sem, hm]
        repeat' (with_reducible first | refine nY ?_ | (refine mX ?_; try simp only [go_sem, h, decide_true, decide_false, hm]) | refine kO ?_ (by decide) | refine regd (by kernel_rfl) ?_ | (refine cC (specMatches_ok s f.fAttrs[k].fName f.fAttrs[k].fValue (by omega) (by omega)) ?_ ?_; focus simp only [go_sem, and_self]; done) | (refine And.intro ?_ ?_; focus omega))
        by_cases hk0 : 0 < k
        · have hki : (0 : Int) < (k : Int) := by omega
          have hkx : (k : Int) - 1 = ((k - 1 : Nat) : Int) := by omega
          have hkl : k - 1 < f.fAttrs.length := by omega
          rw [ordAt_pos TAttr.fName f.fAttrs k hk0 h] at hr
          simp only [go_sem, hki, hkx, hkl, decide_true]
          repeat' (with_reducible first | refine nY ?_ | (refine mX ?_; try simp only [go_sem, h, decide_true, decide_false, hm, hki, hkx, hkl]) | refine kO ?_ (by decide) | refine regd (by kernel_rfl) ?_ | (refine cC (specMatches_ok s f.fAttrs[k].fName f.fAttrs[k].fValue (by omega) (by omega)) ?_ ?_; focus simp only [go_sem, and_self]; done) | (refine And.intro ?_ ?_; focus omega))
          cases ho : strLt (TAttr.fName f.fAttrs[k - 1]) (TAttr.fName f.fAttrs[k])
          · rw [ho] at hr
            simp only [go_sem, ho]
            repeat' (with_reducible first | refine nY ?_ | (refine mX ?_; try simp only [go_sem, h, decide_true, decide_false, hm, hki, hkx, hkl, ho]) | refine kO ?_ (by decide) | refine regd (by kernel_rfl) ?_ | (refine And.intro ?_ ?_; focus omega))
            have hf : okFile s f = false := by
              unfold okFile
              rw [hq, hr]; simp
            exact retK_ret ⟨⟨_, rfl, by simp only [go_sem, hf]⟩, trivial⟩
          · rw [ho] at hr
            simp only [go_sem, ho]
            repeat' (with_reducible first | refine nY ?_ | (refine mX ?_; try simp only [go_sem, h, decide_true, decide_false, hm, hki, hkx, hkl, ho]) | refine kO ?_ (by decide) | refine regd (by kernel_rfl) ?_ | (refine cC (specMatches_ok s f.fAttrs[k].fName f.fAttrs[k].fValue (by omega) (by omega)) ?_ ?_; focus simp only [go_sem, and_self]; done) | (refine And.intro ?_ ?_; focus omega))
            refine L_next (k + 1) ?_ ?_ ?_
            · simp only [go_sem]; simp
            · refine ⟨h, ?_⟩
              rw [hq, hr]; simp
            · omega
        · have hki : ¬ (0 : Int) < (k : Int) := by omega
          rw [ordAt_0 TAttr.fName f.fAttrs k hk0] at hr
          simp only [go_sem, hki, decide_false]
          repeat' (with_reducible first | refine nY ?_ | (refine mX ?_; try simp only [go_sem, h, decide_true, decide_false, hm, hki]) | refine kO ?_ (by decide) | refine regd (by kernel_rfl) ?_ | (refine cC (specMatches_ok s f.fAttrs[k].fName f.fAttrs[k].fValue (by omega) (by omega)) ?_ ?_; focus simp only [go_sem, and_self]; done) | (refine And.intro ?_ ?_; focus omega))
          refine L_next (k + 1) ?_ ?_ ?_
          · simp only [go_sem]; simp
          · refine ⟨h, ?_⟩
            rw [hq, hr]; simp
          · omega
    · simp only [decide_eq_false_iff_not] at h
      have e : k = f.fAttrs.length := by omega
      have hq' : (List.range f.fAttrs.length).all (okAttrAt s f.fAttrs) = true := by
        rw [hq, List.drop_of_length_le (by simp [e])]; rfl
      have hr : okFile s f = (okSchema s && (inB f.fID 1 60 && (inB f.fOwner 0 2 && inB f.fLink 0 60))) := by unfold okFile; rw [hq']; simp only [Bool.true_and]; cases okSchema s <;> simp
      repeat' (with_reducible first | refine nY ?_ | (refine mX ?_; try simp only [go_sem, decide_true, decide_false]) | refine kO ?_ (by decide) | refine regd (by kernel_rfl) ?_ | (refine cC (l01In_ok f.fID 1 60) ?_ ?_; focus simp only [go_sem, and_self]; done) | (refine cC (l01In_ok f.fOwner 0 2) ?_ ?_; focus simp only [go_sem, and_self]; done) | (refine cC (l01In_ok f.fLink 0 60) ?_ ?_; focus simp only [go_sem, and_self]; done) | (refine cC (specSchema_ok s (by unfold wFieldS; omega)) ?_ ?_; focus simp only [go_sem, and_self]; done) | (refine And.intro ?_ ?_; focus omega))
      cases h0 : okSchema s
      · rw [h0] at hr
        simp only [go_sem, h0]
        repeat' (with_reducible first | refine nY ?_ | (refine mX ?_; try simp only [go_sem, decide_true, decide_false, h0]) | refine kO ?_ (by decide) | refine regd (by kernel_rfl) ?_ | (refine And.intro ?_ ?_; focus omega))
        exact retK_ret ⟨⟨_, rfl, by simp only [go_sem, hr, Bool.and_true, Bool.and_false, Bool.true_and, Bool.false_and, Bool.not_true, Bool.not_false, decide_true, decide_false]⟩, trivial⟩
      · rw [h0] at hr
        simp only [go_sem, h0]
        repeat' (with_reducible first | refine nY ?_ | (refine mX ?_; try simp only [go_sem, decide_true, decide_false, h0]) | refine kO ?_ (by decide) | refine regd (by kernel_rfl) ?_ | (refine cC (l01In_ok f.fID 1 60) ?_ ?_; focus simp only [go_sem, and_self]; done) | (refine cC (l01In_ok f.fOwner 0 2) ?_ ?_; focus simp only [go_sem, and_self]; done) | (refine cC (l01In_ok f.fLink 0 60) ?_ ?_; focus simp only [go_sem, and_self]; done) | (refine cC (specSchema_ok s (by unfold wFieldS; omega)) ?_ ?_; focus simp only [go_sem, and_self]; done) | (refine And.intro ?_ ?_; focus omega))
        cases h1 : inB f.fID 1 60
        · rw [h1] at hr
          simp only [go_sem, h1]
          repeat' (with_reducible first | refine nY ?_ | (refine mX ?_; try simp only [go_sem, decide_true, decide_false, h0, h1]) | refine kO ?_ (by decide) | refine regd (by kernel_rfl) ?_ | (refine And.intro ?_ ?_; focus omega))
          exact retK_ret ⟨⟨_, rfl, by simp only [go_sem, hr, Bool.and_true, Bool.and_false, Bool.true_and, Bool.false_and, Bool.not_true, Bool.not_false, decide_true, decide_false]⟩, trivial⟩
        · rw [h1] at hr
          simp only [go_sem, h1]
          repeat' (with_reducible first | refine nY ?_ | (refine mX ?_; try simp only [go_sem, decide_true, decide_false, h0, h1]) | refine kO ?_ (by decide) | refine regd (by kernel_rfl) ?_ | (refine cC (l01In_ok f.fID 1 60) ?_ ?_; focus simp only [go_sem, and_self]; done) | (refine cC (l01In_ok f.fOwner 0 2) ?_ ?_; focus simp only [go_sem, and_self]; done) | (refine cC (l01In_ok f.fLink 0 60) ?_ ?_; focus simp only [go_sem, and_self]; done) | (refine cC (specSchema_ok s (by unfold wFieldS; omega)) ?_ ?_; focus simp only [go_sem, and_self]; done) | (refine And.intro ?_ ?_; focus omega))
          cases h2 : inB f.fOwner 0 2
          · rw [h2] at hr
            simp only [go_sem, h2]
            repeat' (with_reducible first | refine nY ?_ | (refine mX ?_; try simp only [go_sem, decide_true, decide_false, h0, h1, h2]) | refine kO ?_ (by decide) | refine regd (by kernel_rfl) ?_ | (refine And.intro ?_ ?_; focus omega))
            exact retK_ret ⟨⟨_, rfl, by simp only [go_sem, hr, Bool.and_true, Bool.and_false, Bool.true_and, Bool.false_and, Bool.not_true, Bool.not_false, decide_true, decide_false]⟩, trivial⟩
          · rw [h2] at hr
            simp only [go_sem, h2]
            repeat' (with_reducible first | refine nY ?_ | (refine mX ?_; try simp only [go_sem, decide_true, decide_false, h0, h1, h2]) | refine kO ?_ (by decide) | refine regd (by kernel_rfl) ?_ | (refine cC (l01In_ok f.fID 1 60) ?_ ?_; focus simp only [go_sem, and_self]; done) | (refine cC (l01In_ok f.fOwner 0 2) ?_ ?_; focus simp only [go_sem, and_self]; done) | (refine cC (l01In_ok f.fLink 0 60) ?_ ?_; focus simp only [go_sem, and_self]; done) | (refine cC (specSchema_ok s (by unfold wFieldS; omega)) ?_ ?_; focus simp only [go_sem, and_self]; done) | (refine And.intro ?_ ?_; focus omega))
            exact retK_ret ⟨⟨_, rfl, by simp only [go_sem, hr, Bool.and_true, Bool.and_false, Bool.true_and, Bool.false_and, Bool.not_true, Bool.not_false, decide_true, decide_false]⟩, trivial⟩
theorem specStore_ok (x : TStore) (hx : wStore x ≤ 4300000) : FnC Tryz.prog 80 [gStore x] (ob (okStore x)) := by
  unfold wStore wFieldS wFileS at hx
  refine ent Tryz.func80 rfl Tryz.call80 rfl (fun C => ?_); simp only [go_sem, st0, Tryz.ntmps80]
  repeat' (with_reducible first | refine nY ?_ | (refine mX ?_; try simp only [go_sem]) | refine kO ?_ (by decide) | refine regd (by kernel_rfl) ?_ | (refine And.intro ?_ ?_; focus omega))
  refine WP_lp (α := Nat) (fun k => [(3, oi k)]) (fun _ => []) (fun k => k ≤ x.fFiles.length ∧ (List.range x.fFiles.length).all (okFileAt x) = ((List.range x.fFiles.length).drop k).all (okFileAt x)) (fun k => x.fFiles.length - k) 0 (fun _ => ?_) ?_ ?_ (fun k hk => ?_)
  · simp only [go_sem]
  · simp only [go_sem]; simp
  · simp
  · obtain ⟨hk, hq⟩ := hk
    simp only [go_sem]
    repeat' (with_reducible first | refine nY ?_ | (refine mX ?_; try simp only [go_sem]) | refine kO ?_ (by decide) | refine regd (by kernel_rfl) ?_ | (refine And.intro ?_ ?_; focus omega))
    refine cnd rfl (fun h => ?_) (fun h => ?_)
    · simp only [decide_eq_true_eq, Int.ofNat_lt] at h
      have h' : k < (List.range x.fFiles.length).length := by simpa using h
      have hd := List.drop_eq_getElem_cons h'
      rw [hd, List.all_cons, List.getElem_range] at hq
      have hw := wsum_get wFile x.fFiles h
      have hr : okFileAt x k = (okFile x.fSchema x.fFiles[k] && (!decide (x.fNextID ≤ x.fFiles[k].fID) && upAt x.fFiles k)) := by unfold okFileAt; rw [List.getElem?_eq_getElem h]
      repeat' (with_reducible first | refine nY ?_ | (refine mX ?_; try simp only [go_sem, h, decide_true, decide_false]) | refine kO ?_ (by decide) | refine regd (by kernel_rfl) ?_ | (refine cC (specFile_ok x.fSchema x.fFiles[k] (by unfold wFieldS; omega) (by omega)) ?_ ?_; focus simp only [go_sem, and_self]; done) | (refine And.intro ?_ ?_; focus omega))
      cases hm : okFile x.fSchema x.fFiles[k]
      · rw [hm] at hr
        simp only [go_sem, hm]
        repeat' (with_reducible first | refine nY ?_ | (refine mX ?_; try simp only [go_sem, h, decide_true, decide_false, hm]) | refine kO ?_ (by decide) | refine regd (by kernel_rfl) ?_ | (refine And.intro ?_ ?_; focus omega))
        have hf : okStore x = false := by
          unfold okStore
          rw [hq, hr]; simp
        exact retK_ret ⟨⟨_, rfl, by simp only [go_sem, hf]⟩, trivial⟩
      · rw [hm] at hr
        simp only [go_sem, hm]
        repeat' (with_reducible first | refine nY ?_ | (refine mX ?_; try simp only [go_sem, h, decide_true, decide_false, hm]) | refine kO ?_ (by decide) | refine regd (by kernel_rfl) ?_ | (refine cC (specFile_ok x.fSchema x.fFiles[k] (by unfold wFieldS; omega) (by omega)) ?_ ?_; focus simp only [go_sem, and_self]; done) | (refine And.intro ?_ ?_; focus omega))
        by_cases hn : x.fNextID ≤ x.fFiles[k].fID
        · simp only [hn, decide_true] at hr
          simp only [go_sem, hn, decide_true]
          repeat' (with_reducible first | refine nY ?_ | (refine mX ?_; try simp only [go_sem, h, decide_true, decide_false, hm, hn]) | refine kO ?_ (by decide) | refine regd (by kernel_rfl) ?_ | (refine And.intro ?_ ?_; focus omega))
          have hf : okStore x = false := by
            unfold okStore
            rw [hq, hr]; simp
          exact retK_ret ⟨⟨_, rfl, by simp only [go_sem, hf]⟩, trivial⟩
        · simp only [hn, decide_false] at hr
          simp only [go_sem, hn, decide_false]
          repeat' (with_reducible first | refine nY ?_ | (refine mX ?_; try simp only [go_sem, h, decide_true, decide_false, hm, hn]) | refine kO ?_ (by decide) | refine regd (by kernel_rfl) ?_ | (refine cC (specFile_ok x.fSchema x.fFiles[k] (by unfold wFieldS; omega) (by omega)) ?_ ?_; focus simp only [go_sem, and_self]; done) | (refine And.intro ?_ ?_; focus omega))
          by_cases hk0 : 0 < k
          · have hki : (0 : Int) < (k : Int) := by omega
            have hkx : (k : Int) - 1 = ((k - 1 : Nat) : Int) := by omega
            have hkl : k - 1 < x.fFiles.length := by omega
            rw [upAt_pos x.fFiles k hk0 h] at hr
            simp only [go_sem, hki, hkx, hkl, decide_true]
            repeat' (with_reducible first | refine nY ?_ | (refine mX ?_; try simp only [go_sem, h, decide_true, decide_false, hm, hn, hki, hkx, hkl]) | refine kO ?_ (by decide) | refine regd (by kernel_rfl) ?_ | (refine cC (specFile_ok x.fSchema x.fFiles[k] (by unfold wFieldS; omega) (by omega)) ?_ ?_; focus simp only [go_sem, and_self]; done) | (refine And.intro ?_ ?_; focus omega))
            by_cases ho : x.fFiles[k].fID ≤ x.fFiles[k - 1].fID
            · simp only [ho, decide_true] at hr
              simp only [go_sem, ho, decide_true]
              repeat' (with_reducible first | refine nY ?_ | (refine mX ?_; try simp only [go_sem, h, decide_true, decide_false, hm, hn, hki, hkx, hkl, ho]) | refine kO ?_ (by decide) | refine regd (by kernel_rfl) ?_ | (refine And.intro ?_ ?_; focus omega))
              have hf : okStore x = false := by
                unfold okStore
                rw [hq, hr]; simp
              exact retK_ret ⟨⟨_, rfl, by simp only [go_sem, hf]⟩, trivial⟩
            · simp only [ho, decide_false] at hr
              simp only [go_sem, ho, decide_false]
              repeat' (with_reducible first | refine nY ?_ | (refine mX ?_; try simp only [go_sem, h, decide_true, decide_false, hm, hn, hki, hkx, hkl, ho]) | refine kO ?_ (by decide) | refine regd (by kernel_rfl) ?_ | (refine cC (specFile_ok x.fSchema x.fFiles[k] (by unfold wFieldS; omega) (by omega)) ?_ ?_; focus simp only [go_sem, and_self]; done) | (refine And.intro ?_ ?_; focus omega))
              refine L_next (k + 1) ?_ ?_ ?_
              · simp only [go_sem]; simp
              · refine ⟨h, ?_⟩
                rw [hq, hr]; simp
              · omega
          · have hki : ¬ (0 : Int) < (k : Int) := by omega
            rw [upAt_0 x.fFiles k hk0] at hr
            simp only [go_sem, hki, decide_false]
            repeat' (with_reducible first | refine nY ?_ | (refine mX ?_; try simp only [go_sem, h, decide_true, decide_false, hm, hn, hki]) | refine kO ?_ (by decide) | refine regd (by kernel_rfl) ?_ | (refine cC (specFile_ok x.fSchema x.fFiles[k] (by unfold wFieldS; omega) (by omega)) ?_ ?_; focus simp only [go_sem, and_self]; done) | (refine And.intro ?_ ?_; focus omega))
            refine L_next (k + 1) ?_ ?_ ?_
            · simp only [go_sem]; simp
            · refine ⟨h, ?_⟩
              rw [hq, hr]; simp
            · omega
    · simp only [decide_eq_false_iff_not] at h
      have e : k = x.fFiles.length := by omega
      have hq' : (List.range x.fFiles.length).all (okFileAt x) = true := by
        rw [hq, List.drop_of_length_le (by simp [e])]; rfl
      have hr : okStore x = (okSchema x.fSchema && (decide ((x.fFiles.length : Int) ≤ 12) && inB x.fNextID 1 61)) := by unfold okStore; rw [hq']; simp only [Bool.true_and]
      repeat' (with_reducible first | refine nY ?_ | (refine mX ?_; try simp only [go_sem, decide_true, decide_false]) | refine kO ?_ (by decide) | refine regd (by kernel_rfl) ?_ | (refine cC (specSchema_ok x.fSchema (by unfold wFieldS; omega)) ?_ ?_; focus simp only [go_sem, and_self]; done) | (refine cC (l01In_ok x.fNextID 1 61) ?_ ?_; focus simp only [go_sem, and_self]; done) | (refine And.intro ?_ ?_; focus omega))
      cases h0 : okSchema x.fSchema
      · rw [h0] at hr
        simp only [go_sem, h0]
        repeat' (with_reducible first | refine nY ?_ | (refine mX ?_; try simp only [go_sem, decide_true, decide_false, h0]) | refine kO ?_ (by decide) | refine regd (by kernel_rfl) ?_ | (refine And.intro ?_ ?_; focus omega))
        exact retK_ret ⟨⟨_, rfl, by simp only [go_sem, hr, Bool.and_true, Bool.and_false, Bool.true_and, Bool.false_and, Bool.not_true, Bool.not_false, decide_true, decide_false]⟩, trivial⟩
      · rw [h0] at hr
        simp only [go_sem, h0]
        repeat' (with_reducible first | refine nY ?_ | (refine mX ?_; try simp only [go_sem, decide_true, decide_false, h0]) | refine kO ?_ (by decide) | refine regd (by kernel_rfl) ?_ | (refine cC (specSchema_ok x.fSchema (by unfold wFieldS; omega)) ?_ ?_; focus simp only [go_sem, and_self]; done) | (refine cC (l01In_ok x.fNextID 1 61) ?_ ?_; focus simp only [go_sem, and_self]; done) | (refine And.intro ?_ ?_; focus omega))
        by_cases h1 : (x.fFiles.length : Int) ≤ 12
        · simp only [h1, decide_true] at hr
          simp only [go_sem, h1, decide_true]
          repeat' (with_reducible first | refine nY ?_ | (refine mX ?_; try simp only [go_sem, decide_true, decide_false, h0, h1]) | refine kO ?_ (by decide) | refine regd (by kernel_rfl) ?_ | (refine cC (specSchema_ok x.fSchema (by unfold wFieldS; omega)) ?_ ?_; focus simp only [go_sem, and_self]; done) | (refine cC (l01In_ok x.fNextID 1 61) ?_ ?_; focus simp only [go_sem, and_self]; done) | (refine And.intro ?_ ?_; focus omega))
          exact retK_ret ⟨⟨_, rfl, by simp only [go_sem, hr, Bool.and_true, Bool.and_false, Bool.true_and, Bool.false_and, Bool.not_true, Bool.not_false, decide_true, decide_false]⟩, trivial⟩
        · simp only [h1, decide_false] at hr
          simp only [go_sem, h1, decide_false]
          repeat' (with_reducible first | refine nY ?_ | (refine mX ?_; try simp only [go_sem, decide_true, decide_false, h0, h1]) | refine kO ?_ (by decide) | refine regd (by kernel_rfl) ?_ | (refine And.intro ?_ ?_; focus omega))
          exact retK_ret ⟨⟨_, rfl, by simp only [go_sem, hr, Bool.and_true, Bool.and_false, Bool.true_and, Bool.false_and, Bool.not_true, Bool.not_false, decide_true, decide_false]⟩, trivial⟩
theorem specVDirs_ok (d : List TDir) (hd : wDirS d ≤ 4300000) : FnC Tryz.prog 155 [.o (.d (.sl (d.map encDir)))] (ob (okDirs d)) := by
  unfold wDirS at hd
  refine ent Tryz.func155 rfl Tryz.call155 rfl (fun C => ?_); simp only [go_sem, st0, Tryz.ntmps155]
  repeat' (with_reducible first | refine nY ?_ | (refine mX ?_; try simp only [go_sem]) | refine kO ?_ (by decide) | refine regd (by kernel_rfl) ?_ | (refine And.intro ?_ ?_; focus omega))
  refine WP_lp (α := Nat) (fun k => [(3, oi k)]) (fun _ => []) (fun k => k ≤ d.length ∧ (List.range d.length).all (okDirAt d) = ((List.range d.length).drop k).all (okDirAt d)) (fun k => d.length - k) 0 (fun _ => ?_) ?_ ?_ (fun k hk => ?_)
  · simp only [go_sem]
  · simp only [go_sem]; simp
  · simp
  · obtain ⟨hk, hq⟩ := hk
    simp only [go_sem]
    repeat' (with_reducible first | refine nY ?_ | (refine mX ?_; try simp only [go_sem]) | refine kO ?_ (by decide) | refine regd (by kernel_rfl) ?_ | (refine And.intro ?_ ?_; focus omega))
    refine cnd rfl (fun h => ?_) (fun h => ?_)
    · simp only [decide_eq_true_eq, Int.ofNat_lt] at h
      have h' : k < (List.range d.length).length := by simpa using h
      have hd := List.drop_eq_getElem_cons h'
      rw [hd, List.all_cons, List.getElem_range] at hq
      have hw := wsum_get wDir d h
      have hw1 : d[k].fName.size + wNodeS d[k].fQuery ≤ wDir d[k] := by unfold wDir; omega
      have hr : okDirAt d k = (isText d[k].fName 6 && (okQ d[k].fQuery && ordAt TDir.fName d k)) := by unfold okDirAt; rw [List.getElem?_eq_getElem h, Bool.and_comm (okQ d[k].fQuery)]
      repeat' (with_reducible first | refine nY ?_ | (refine mX ?_; try simp only [go_sem, h, decide_true, decide_false]) | refine kO ?_ (by decide) | refine regd (by kernel_rfl) ?_ | (refine cC (specIsValidString_ok d[k].fName (by omega)) ?_ ?_; focus simp only [go_sem, and_self]; done) | (refine cC (specIsValidQuery_ok d[k].fQuery (by omega)) ?_ ?_; focus simp only [go_sem, and_self]; done) | (refine And.intro ?_ ?_; focus omega))
      cases ht : isText d[k].fName 6
      · rw [ht] at hr
        simp only [go_sem, ht]
        repeat' (with_reducible first | refine nY ?_ | (refine mX ?_; try simp only [go_sem, h, decide_true, decide_false, ht]) | refine kO ?_ (by decide) | refine regd (by kernel_rfl) ?_ | (refine And.intro ?_ ?_; focus omega))
        have hf : okDirs d = false := by
          unfold okDirs
          rw [hq, hr]; simp
        exact retK_ret ⟨⟨_, rfl, by simp only [go_sem, hf]⟩, trivial⟩
      · rw [ht] at hr
        simp only [go_sem, ht]
        repeat' (with_reducible first | refine nY ?_ | (refine mX ?_; try simp only [go_sem, h, decide_true, decide_false, ht]) | refine kO ?_ (by decide) | refine regd (by kernel_rfl) ?_ | (refine cC (specIsValidString_ok d[k].fName (by omega)) ?_ ?_; focus simp only [go_sem, and_self]; done) | (refine cC (specIsValidQuery_ok d[k].fQuery (by omega)) ?_ ?_; focus simp only [go_sem, and_self]; done) | (refine And.intro ?_ ?_; focus omega))
        cases hv : okQ d[k].fQuery
        · rw [hv] at hr
          simp only [go_sem, hv]
          repeat' (with_reducible first | refine nY ?_ | (refine mX ?_; try simp only [go_sem, h, decide_true, decide_false, ht, hv]) | refine kO ?_ (by decide) | refine regd (by kernel_rfl) ?_ | (refine And.intro ?_ ?_; focus omega))
          have hf : okDirs d = false := by
            unfold okDirs
            rw [hq, hr]; simp
          exact retK_ret ⟨⟨_, rfl, by simp only [go_sem, hf]⟩, trivial⟩
        · rw [hv] at hr
          simp only [go_sem, hv]
          repeat' (with_reducible first | refine nY ?_ | (refine mX ?_; try simp only [go_sem, h, decide_true, decide_false, ht, hv]) | refine kO ?_ (by decide) | refine regd (by kernel_rfl) ?_ | (refine cC (specIsValidString_ok d[k].fName (by omega)) ?_ ?_; focus simp only [go_sem, and_self]; done) | (refine cC (specIsValidQuery_ok d[k].fQuery (by omega)) ?_ ?_; focus simp only [go_sem, and_self]; done) | (refine And.intro ?_ ?_; focus omega))
          by_cases hk0 : 0 < k
          · have hki : (0 : Int) < (k : Int) := by omega
            have hkx : (k : Int) - 1 = ((k - 1 : Nat) : Int) := by omega
            have hkl : k - 1 < d.length := by omega
            rw [ordAt_pos TDir.fName d k hk0 h] at hr
            simp only [go_sem, hki, hkx, hkl, decide_true]
            repeat' (with_reducible first | refine nY ?_ | (refine mX ?_; try simp only [go_sem, h, decide_true, decide_false, ht, hv, hki, hkx, hkl]) | refine kO ?_ (by decide) | refine regd (by kernel_rfl) ?_ | (refine cC (specIsValidString_ok d[k].fName (by omega)) ?_ ?_; focus simp only [go_sem, and_self]; done) | (refine cC (specIsValidQuery_ok d[k].fQuery (by omega)) ?_ ?_; focus simp only [go_sem, and_self]; done) | (refine And.intro ?_ ?_; focus omega))
            cases ho : strLt (TDir.fName d[k - 1]) (TDir.fName d[k])
            · rw [ho] at hr
              simp only [go_sem, ho]
              repeat' (with_reducible first | refine nY ?_ | (refine mX ?_; try simp only [go_sem, h, decide_true, decide_false, ht, hv, hki, hkx, hkl, ho]) | refine kO ?_ (by decide) | refine regd (by kernel_rfl) ?_ | (refine And.intro ?_ ?_; focus omega))
              have hf : okDirs d = false := by
                unfold okDirs
                rw [hq, hr]; simp
              exact retK_ret ⟨⟨_, rfl, by simp only [go_sem, hf]⟩, trivial⟩
            · rw [ho] at hr
              simp only [go_sem, ho]
              repeat' (with_reducible first | refine nY ?_ | (refine mX ?_; try simp only [go_sem, h, decide_true, decide_false, ht, hv, hki, hkx, hkl, ho]) | refine kO ?_ (by decide) | refine regd (by kernel_rfl) ?_ | (refine cC (specIsValidString_ok d[k].fName (by omega)) ?_ ?_; focus simp only [go_sem, and_self]; done) | (refine cC (specIsValidQuery_ok d[k].fQuery (by omega)) ?_ ?_; focus simp only [go_sem, and_self]; done) | (refine And.intro ?_ ?_; focus omega))
              refine L_next (k + 1) ?_ ?_ ?_
              · simp only [go_sem]; simp
              · refine ⟨h, ?_⟩
                rw [hq, hr]; simp
              · omega
          · have hki : ¬ (0 : Int) < (k : Int) := by omega
            rw [ordAt_0 TDir.fName d k hk0] at hr
            simp only [go_sem, hki, decide_false]
            repeat' (with_reducible first | refine nY ?_ | (refine mX ?_; try simp only [go_sem, h, decide_true, decide_false, ht, hv, hki]) | refine kO ?_ (by decide) | refine regd (by kernel_rfl) ?_ | (refine cC (specIsValidString_ok d[k].fName (by omega)) ?_ ?_; focus simp only [go_sem, and_self]; done) | (refine cC (specIsValidQuery_ok d[k].fQuery (by omega)) ?_ ?_; focus simp only [go_sem, and_self]; done) | (refine And.intro ?_ ?_; focus omega))
            refine L_next (k + 1) ?_ ?_ ?_
            · simp only [go_sem]; simp
            · refine ⟨h, ?_⟩
              rw [hq, hr]; simp
            · omega
    · simp only [decide_eq_false_iff_not] at h
      have e : k = d.length := by omega
      have hq' : (List.range d.length).all (okDirAt d) = true := by
        rw [hq, List.drop_of_length_le (by simp [e])]; rfl
      have hr : okDirs d = decide ((d.length : Int) ≤ 5) := by unfold okDirs; rw [hq']; simp only [Bool.true_and]
      repeat' (with_reducible first | refine nY ?_ | (refine mX ?_; try simp only [go_sem, decide_true, decide_false]) | refine kO ?_ (by decide) | refine regd (by kernel_rfl) ?_ | (refine And.intro ?_ ?_; focus omega))
      exact retK_ret ⟨⟨_, rfl, by simp only [go_sem, hr, Bool.and_true, Bool.and_false, Bool.true_and, Bool.false_and, Bool.not_true, Bool.not_false, decide_true, decide_false]⟩, trivial⟩
end Go.Proofs.YtgglopecipbbfaaGreat
