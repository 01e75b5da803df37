/- Joined texts. -/
import Derived.Test.YtddimbdeggomaaaGreatZ16
import Derived.Test.YtddimbdeggomaaaGreatZ11
set_option linter.all false
section
set_option maxRecDepth 100000
set_option maxHeartbeats 4000000
namespace Go.Proofs.YtddimbdeggomaaaGreat
open Go Go.Sx Go.RowKit Go.Proofs
theorem fileAtF_ok (id : Int) (x : TFile) : FnC Tryz.prog 257 [gFile x, .o (.q [iv id])] (ob (decide (x.fID = id))) := by
 refine ent Tryz.func257 rfl Tryz.call257 rfl (fun C => ?_); simp only [go_sem, st0, Tryz.ntmps257]
 refine w0_0 ?_
 exact retK_ret ⟨⟨_, rfl, by simp only [go_sem]⟩, trivial⟩
theorem fileAt_ok (s : TStore) (id : Int) (hl : s.fFiles.length ≤ 4300000) : FnC Tryz.prog 190 [gStore s, oi id] (oi (ixF id s.fFiles)) := by
 refine ent Tryz.func190 rfl Tryz.call190 rfl (fun C => ?_); simp only [go_sem, st0, Tryz.ntmps190]
 refine w0_1 (indexFuncFile_ok _ _ (fun x => decide (x.fID = id)) s.fFiles (fun y _ => fileAtF_ok id y) (by omega)) ?_
 exact retK_ret ⟨⟨_, rfl, by simp only [go_sem, ixF]⟩, trivial⟩
theorem l05Place_ok (s : TStore) (id : Int) (hl : s.fFiles.length ≤ 4300000) : FnC Tryz.prog 189 [gStore s, oi id] (oi (ixF id s.fFiles)) := by
 refine ent Tryz.func189 rfl Tryz.call189 rfl (fun C => ?_); simp only [go_sem, st0, Tryz.ntmps189]
 refine w0_0 ?_
 refine WP_lp (α := Nat) (fun k => [(5, oi k)]) (fun _ => []) (fun k => k ≤ s.fFiles.length ∧ ixF id s.fFiles = idxP (fun f => decide (f.fID = id)) (s.fFiles.drop k) k) (fun k => s.fFiles.length - k) 0 (fun _ => ?_) ?_ ?_ (fun k hk => ?_)
 ·simp only [go_sem]
 ·simp only [go_sem]; simp
 ·simp [ixF]
 ·obtain ⟨hk, hq⟩ := hk
  simp only [go_sem]
  refine w0_0 ?_
  refine cnd rfl (fun h => ?_) (fun h => ?_)
  ·simp only [decide_eq_true_eq, Int.ofNat_lt] at h
   have hd := List.drop_eq_getElem_cons h
   rw [hd, idxP] at hq
   by_cases h2 : s.fFiles[k].fID = id
   ·rw [if_pos (by simp [h2])] at hq
    have q0 := @h; have q1 := @h2; have q2 := @decide_true; refine w3_0 ?_
    exact retK_ret ⟨⟨_, rfl, by simp only [go_sem, hq]⟩, trivial⟩
   ·rw [if_neg (by simp [h2])] at hq
    have q0 := @h; have q1 := @h2; have q2 := @decide_false; refine w3_0 ?_
    refine L_next (k + 1) ?_ ?_ ?_
    ·simp only [go_sem]; simp
    ·rw [hq]; exact ⟨h, by simp⟩
    ·omega
  ·simp only [decide_eq_false_iff_not] at h
   have e : k = s.fFiles.length := by omega
   subst e
   simp only [List.drop_length, idxP] at hq
   refine w0_0 ?_
   exact retK_ret ⟨⟨_, rfl, by simp only [go_sem, hq]⟩, trivial⟩
theorem implFind_ok (s : TStore) (id : Int) (h : wStore s ≤ 4300000) : FnC Tryz.prog 125 [gStore s, oi id] (.t [(true, (rFile (findF id s.fFiles)).cells), (false, [.d (bv (decide (0 ≤ ixF id s.fFiles)))])]) := by
 have hl : s.fFiles.length ≤ 4300000 := by unfold wStore wFileS at h; omega
 refine ent Tryz.func125 rfl Tryz.call125 rfl (fun C => ?_); simp only [go_sem, st0, Tryz.ntmps125]
 rcases ixF_cases id s.fFiles with e | ⟨p, e, hp, _⟩
 ·have e1 := findF_no e
  have hz : ¬ (0 : Int) ≤ -1 := by omega
  have hk := fileAt_ok s id hl
  rw [e] at hk
  have q0 := @hz; have q1 := @decide_false; refine w2_1 hk ?_
  exact retK_ret ⟨⟨_, rfl, by simp only [go_sem, e, e1, hz, decide_false, zF, List.map_nil]; try simp⟩, by simp [notOne]⟩
 ·have e1 := findF_yes e hp
  have hz : (0 : Int) ≤ (p : Int) := by omega
  have hw := wsum_get wFile s.fFiles hp
  have hx : s.fFiles[p].fAttrs.length ≤ 4300000 := by
   have e : s.fFiles[p].fAttrs.length ≤ wFile s.fFiles[p] := by unfold wFile wAttrS; omega
   unfold wStore wFileS at h; omega
  have hk := fileAt_ok s id hl
  rw [e] at hk
  have q0 := @hz; have q1 := @hp; have q2 := @decide_true; have q3 := @Int.toNat_natCast; refine w4_2 hk (cpFile_ok s.fFiles[p] hx) ?_
  exact retK_ret ⟨⟨_, rfl, by simp only [go_sem, e, e1, hz, decide_true]; try simp⟩, by simp [notOne]⟩
theorem specFind_ok (s : TStore) (id : Int) (h : wStore s ≤ 4300000) : FnC Tryz.prog 123 [gStore s, oi id] (.t [(true, (rFile (findF id s.fFiles)).cells), (false, [.d (bv (decide (0 ≤ ixF id s.fFiles)))])]) := by
 have hl : s.fFiles.length ≤ 4300000 := by unfold wStore wFileS at h; omega
 refine ent Tryz.func123 rfl Tryz.call123 rfl (fun C => ?_); simp only [go_sem, st0, Tryz.ntmps123]
 rcases ixF_cases id s.fFiles with e | ⟨p, e, hp, _⟩
 ·have e1 := findF_no e
  have hz : ¬ (0 : Int) ≤ -1 := by omega
  have hy : (-1 : Int) < 0 := by omega
  have hk := l05Place_ok s id hl
  rw [e] at hk
  have q0 := @hy; have q1 := @decide_true; refine w2_1 hk ?_
  exact retK_ret ⟨⟨_, rfl, by simp only [go_sem, e, e1, hz, decide_false, zF, List.map_nil]; try simp⟩, by simp [notOne]⟩
 ·have e1 := findF_yes e hp
  have hz : (0 : Int) ≤ (p : Int) := by omega
  have hy : ¬ (p : Int) < 0 := by omega
  have hw := wsum_get wFile s.fFiles hp
  have hx : s.fFiles[p].fAttrs.length ≤ 4300000 := by
   have e : s.fFiles[p].fAttrs.length ≤ wFile s.fFiles[p] := by unfold wFile wAttrS; omega
   unfold wStore wFileS at h; omega
  have hk := l05Place_ok s id hl
  rw [e] at hk
  have q0 := @hy; have q1 := @hp; have q2 := @decide_false; have q3 := @Int.toNat_natCast; refine w4_2 hk (l04Cp_ok s.fFiles[p] hx) ?_
  exact retK_ret ⟨⟨_, rfl, by simp only [go_sem, e, e1, hz, decide_true]; try simp⟩, by simp [notOne]⟩
theorem implReplace_ok (s : TStore) (f : TFile) (hs : wStore s ≤ 4300000) (hf : wFile f ≤ 4300000) : FnC Tryz.prog 130 [gStore s, gFile f] (.t [(true, (rStore (repS s f)).cells), (false, [.d (bv (repOK s f))])]) := by
 have h1 : wFieldS s.fSchema ≤ 4300000 := by unfold wStore at hs; omega
 have h2 : s.fFiles.length ≤ 4300000 := by unfold wStore wFileS at hs; omega
 have h3 : f.fAttrs.length ≤ 4300000 := by unfold wFile wAttrS at hf; omega
 have hk := fileAt_ok s f.fID h2
 refine ent Tryz.func130 rfl Tryz.call130 rfl (fun C => ?_); simp only [go_sem, st0, Tryz.ntmps130]
 cases hv : okStore s
 ·have e : repOK s f = false := by simp [repOK, hv]
  have q0 := @hv; refine w1_3 (cpStore_ok s hs) hk (implStore_ok s hs) ?_
  exact retK_ret ⟨⟨_, rfl, by simp only [go_sem, repS, e]; try simp⟩, by simp [notOne]⟩
 rcases ixF_cases f.fID s.fFiles with ei | ⟨p, ei, hp, _⟩
 ·have e : repOK s f = false := by simp [repOK, ei]
  have hy : (-1 : Int) < 0 := by omega
  rw [ei] at hk
  have q0 := @hv; have q1 := @hy; have q2 := @decide_true; refine w3_3 (cpStore_ok s hs) hk (implStore_ok s hs) ?_
  exact retK_ret ⟨⟨_, rfl, by simp only [go_sem, repS, e]; try simp⟩, by simp [notOne]⟩
 have hy : ¬ (p : Int) < 0 := by omega
 rw [ei] at hk
 cases ho : okFile s.fSchema f
 ·have e : repOK s f = false := by simp [repOK, ho]
  have q0 := @hv; have q1 := @hy; have q2 := @ho; have q3 := @decide_false; refine w4_4 (cpStore_ok s hs) hk (implStore_ok s hs) (implFile_ok s.fSchema f h1 hf) ?_
  exact retK_ret ⟨⟨_, rfl, by simp only [go_sem, repS, e]; try simp⟩, by simp [notOne]⟩
 ·have e : repOK s f = true := by simp [repOK, hv, ei, ho]
  repeat' (with_reducible first | refine nY ?_ | (refine mX ?_; try simp only [go_sem, hv, hy, ho, hp, decide_false, Int.toNat_natCast, List.length_map]) | refine kO ?_ (by decide) | (apply rE [4,6] [] [0,1,2,3] [0,1,2,3] ((.c 4 [5] [0,1,2,5] (.c 6 [] [] .n .n) .n)) (by simp only [go_sem]; rfl) (by simp only [go_sem]; rfl) (by simp only [go_sem]; rfl) (by decide +kernel); (focus simp only [go_sem]; done)) | exact tt_nil | (refine tt_cons (uX ?_) ?_) | refine tn_leaf (aX ?_) ?_ | refine tn_node (aX ?_) ?_ | exact meet_eq | (refine oG ?_; (focus simp only [go_sem]; done)) | (refine uA ?_; simp only [go_sem, hv, hy, ho, hp, decide_false, Int.toNat_natCast, List.length_map]; (repeat' first | omega | refine And.intro ?_ ?_); done) | refine regd (by kernel_rfl) ?_ | (refine cC (cpStore_ok s hs) ?_ ?_; focus simp only [go_sem, and_self]; done) | (refine cC (hk) ?_ ?_; focus simp only [go_sem, and_self]; done) | (refine cC (implStore_ok s hs) ?_ ?_; focus simp only [go_sem, and_self]; done) | (refine cC (implFile_ok s.fSchema f h1 hf) ?_ ?_; focus simp only [go_sem, and_self]; done) | (refine cC (cpFile_ok f h3) ?_ ?_; focus simp only [go_sem, and_self]; done) | (refine And.intro ?_ ?_; focus omega))
  exact retK_ret ⟨⟨_, rfl, by simp only [go_sem, repS, e, ei, Int.toNat_natCast, if_true, List.map_set]; try simp [encFile]⟩, by simp [notOne]⟩
theorem specReplace_ok (s : TStore) (f : TFile) (hs : wStore s ≤ 4300000) (hf : wFile f ≤ 4300000) : FnC Tryz.prog 128 [gStore s, gFile f] (.t [(true, (rStore (repS s f)).cells), (false, [.d (bv (repOK s f))])]) := by
 have h1 : wFieldS s.fSchema ≤ 4300000 := by unfold wStore at hs; omega
 have h2 : s.fFiles.length ≤ 4300000 := by unfold wStore wFileS at hs; omega
 have h3 : f.fAttrs.length ≤ 4300000 := by unfold wFile wAttrS at hf; omega
 have hk := l05Place_ok s f.fID h2
 refine ent Tryz.func128 rfl Tryz.call128 rfl (fun C => ?_); simp only [go_sem, st0, Tryz.ntmps128]
 cases hv : okStore s
 ·have e : repOK s f = false := by simp [repOK, hv]
  repeat' (with_reducible first | refine nY ?_ | (refine mX ?_; try simp only [go_sem, hv]) | refine kO ?_ (by decide) | refine regd (by kernel_rfl) ?_ | (refine cC (l05Cp_ok s hs) ?_ ?_; focus simp only [go_sem, and_self]; done) | (refine calr (hk) ?_ ?_ ?_ (uX ?_); (focus simp only [go_sem, hv]; done); (focus simp only [go_sem, hv]; done); (focus simp only [go_sem, hv]; done)) | (refine cDr (hk) ?_ ?_ ?_ (uX ?_); (focus simp only [go_sem, hv]; done); (focus simp only [go_sem, hv]; done); (focus simp only [go_sem, hv]; done)) | (refine calr (specStore_ok s hs) ?_ ?_ ?_ (uX ?_); (focus simp only [go_sem, hv]; done); (focus simp only [go_sem, hv]; done); (focus simp only [go_sem, hv]; done)) | (refine cDr (specStore_ok s hs) ?_ ?_ ?_ (uX ?_); (focus simp only [go_sem, hv]; done); (focus simp only [go_sem, hv]; done); (focus simp only [go_sem, hv]; done)) | (refine And.intro ?_ ?_; focus omega))
  exact retK_ret ⟨⟨_, rfl, by simp only [go_sem, repS, e]; try simp⟩, by simp [notOne]⟩
 rcases ixF_cases f.fID s.fFiles with ei | ⟨p, ei, hp, _⟩
 ·have e : repOK s f = false := by simp [repOK, ei]
  have hy : (-1 : Int) < 0 := by omega
  rw [ei] at hk
  repeat' (with_reducible first | refine nY ?_ | (refine mX ?_; try simp only [go_sem, hv, hy, decide_true]) | refine kO ?_ (by decide) | refine regd (by kernel_rfl) ?_ | (refine cC (l05Cp_ok s hs) ?_ ?_; focus simp only [go_sem, and_self]; done) | (refine calr (hk) ?_ ?_ ?_ (uX ?_); (focus simp only [go_sem, hv, hy, decide_true]; done); (focus simp only [go_sem, hv, hy, decide_true]; done); (focus simp only [go_sem, hv, hy, decide_true]; done)) | (refine cDr (hk) ?_ ?_ ?_ (uX ?_); (focus simp only [go_sem, hv, hy, decide_true]; done); (focus simp only [go_sem, hv, hy, decide_true]; done); (focus simp only [go_sem, hv, hy, decide_true]; done)) | (refine calr (specStore_ok s hs) ?_ ?_ ?_ (uX ?_); (focus simp only [go_sem, hv, hy, decide_true]; done); (focus simp only [go_sem, hv, hy, decide_true]; done); (focus simp only [go_sem, hv, hy, decide_true]; done)) | (refine cDr (specStore_ok s hs) ?_ ?_ ?_ (uX ?_); (focus simp only [go_sem, hv, hy, decide_true]; done); (focus simp only [go_sem, hv, hy, decide_true]; done); (focus simp only [go_sem, hv, hy, decide_true]; done)) | (refine And.intro ?_ ?_; focus omega))
  exact retK_ret ⟨⟨_, rfl, by simp only [go_sem, repS, e]; try simp⟩, by simp [notOne]⟩
 have hy : ¬ (p : Int) < 0 := by omega
 rw [ei] at hk
 cases ho : okFile s.fSchema f
 ·have e : repOK s f = false := by simp [repOK, ho]
  repeat' (with_reducible first | refine nY ?_ | (refine mX ?_; try simp only [go_sem, hv, hy, ho, decide_false]) | refine kO ?_ (by decide) | refine regd (by kernel_rfl) ?_ | (refine cC (l05Cp_ok s hs) ?_ ?_; focus simp only [go_sem, and_self]; done) | (refine calr (hk) ?_ ?_ ?_ (uX ?_); (focus simp only [go_sem, hv, hy, ho, decide_false]; done); (focus simp only [go_sem, hv, hy, ho, decide_false]; done); (focus simp only [go_sem, hv, hy, ho, decide_false]; done)) | (refine cDr (hk) ?_ ?_ ?_ (uX ?_); (focus simp only [go_sem, hv, hy, ho, decide_false]; done); (focus simp only [go_sem, hv, hy, ho, decide_false]; done); (focus simp only [go_sem, hv, hy, ho, decide_false]; done)) | (refine calr (specStore_ok s hs) ?_ ?_ ?_ (uX ?_); (focus simp only [go_sem, hv, hy, ho, decide_false]; done); (focus simp only [go_sem, hv, hy, ho, decide_false]; done); (focus simp only [go_sem, hv, hy, ho, decide_false]; done)) | (refine cDr (specStore_ok s hs) ?_ ?_ ?_ (uX ?_); (focus simp only [go_sem, hv, hy, ho, decide_false]; done); (focus simp only [go_sem, hv, hy, ho, decide_false]; done); (focus simp only [go_sem, hv, hy, ho, decide_false]; done)) | (refine calr (specFile_ok s.fSchema f h1 hf) ?_ ?_ ?_ (uX ?_); (focus simp only [go_sem, hv, hy, ho, decide_false]; done); (focus simp only [go_sem, hv, hy, ho, decide_false]; done); (focus simp only [go_sem, hv, hy, ho, decide_false]; done)) | (refine cDr (specFile_ok s.fSchema f h1 hf) ?_ ?_ ?_ (uX ?_); (focus simp only [go_sem, hv, hy, ho, decide_false]; done); (focus simp only [go_sem, hv, hy, ho, decide_false]; done); (focus simp only [go_sem, hv, hy, ho, decide_false]; done)) | (refine And.intro ?_ ?_; focus omega))
  exact retK_ret ⟨⟨_, rfl, by simp only [go_sem, repS, e]; try simp⟩, by simp [notOne]⟩
 ·have e : repOK s f = true := by simp [repOK, hv, ei, ho]
  repeat' (with_reducible first | refine nY ?_ | (refine mX ?_; try simp only [go_sem, hv, hy, ho, hp, decide_false, Int.toNat_natCast, List.length_map]) | refine kO ?_ (by decide) | (apply rE [4,6] [] [0,1,2,3] [0,1,2,3] ((.c 4 [5] [0,1,2,5] (.c 6 [] [] .n .n) .n)) (by simp only [go_sem]; rfl) (by simp only [go_sem]; rfl) (by simp only [go_sem]; rfl) (by decide +kernel); (focus simp only [go_sem]; done)) | exact tt_nil | (refine tt_cons (uX ?_) ?_) | refine tn_leaf (aX ?_) ?_ | refine tn_node (aX ?_) ?_ | exact meet_eq | (refine oG ?_; (focus simp only [go_sem]; done)) | (refine uA ?_; simp only [go_sem, hv, hy, ho, hp, decide_false, Int.toNat_natCast, List.length_map]; (repeat' first | omega | refine And.intro ?_ ?_); done) | refine regd (by kernel_rfl) ?_ | (refine cC (l05Cp_ok s hs) ?_ ?_; focus simp only [go_sem, and_self]; done) | (refine calr (hk) ?_ ?_ ?_ (uX ?_); (focus simp only [go_sem, hv, hy, ho, hp, decide_false, Int.toNat_natCast, List.length_map]; done); (focus simp only [go_sem, hv, hy, ho, hp, decide_false, Int.toNat_natCast, List.length_map]; done); (focus simp only [go_sem, hv, hy, ho, hp, decide_false, Int.toNat_natCast, List.length_map]; done)) | (refine cGr (hk) ?_ ?_ ?_ (uX ?_); (focus simp only [go_sem, hv, hy, ho, hp, decide_false, Int.toNat_natCast, List.length_map]; done); (focus simp only [go_sem, hv, hy, ho, hp, decide_false, Int.toNat_natCast, List.length_map]; done); (focus simp only [go_sem, hv, hy, ho, hp, decide_false, Int.toNat_natCast, List.length_map]; done)) | (refine calr (specStore_ok s hs) ?_ ?_ ?_ (uX ?_); (focus simp only [go_sem, hv, hy, ho, hp, decide_false, Int.toNat_natCast, List.length_map]; done); (focus simp only [go_sem, hv, hy, ho, hp, decide_false, Int.toNat_natCast, List.length_map]; done); (focus simp only [go_sem, hv, hy, ho, hp, decide_false, Int.toNat_natCast, List.length_map]; done)) | (refine cGr (specStore_ok s hs) ?_ ?_ ?_ (uX ?_); (focus simp only [go_sem, hv, hy, ho, hp, decide_false, Int.toNat_natCast, List.length_map]; done); (focus simp only [go_sem, hv, hy, ho, hp, decide_false, Int.toNat_natCast, List.length_map]; done); (focus simp only [go_sem, hv, hy, ho, hp, decide_false, Int.toNat_natCast, List.length_map]; done)) | (refine calr (specFile_ok s.fSchema f h1 hf) ?_ ?_ ?_ (uX ?_); (focus simp only [go_sem, hv, hy, ho, hp, decide_false, Int.toNat_natCast, List.length_map]; done); (focus simp only [go_sem, hv, hy, ho, hp, decide_false, Int.toNat_natCast, List.length_map]; done); (focus simp only [go_sem, hv, hy, ho, hp, decide_false, Int.toNat_natCast, List.length_map]; done)) | (refine cGr (specFile_ok s.fSchema f h1 hf) ?_ ?_ ?_ (uX ?_); (focus simp only [go_sem, hv, hy, ho, hp, decide_false, Int.toNat_natCast, List.length_map]; done); (focus simp only [go_sem, hv, hy, ho, hp, decide_false, Int.toNat_natCast, List.length_map]; done); (focus simp only [go_sem, hv, hy, ho, hp, decide_false, Int.toNat_natCast, List.length_map]; done)) | (refine cC (l04Cp_ok f h3) ?_ ?_; focus simp only [go_sem, and_self]; done) | (refine And.intro ?_ ?_; focus omega))
  exact retK_ret ⟨⟨_, rfl, by simp only [go_sem, repS, e, ei, Int.toNat_natCast, if_true, List.map_set]; try simp [encFile]⟩, by simp [notOne]⟩
end Go.Proofs.YtddimbdeggomaaaGreat
end
