/- Joined texts. -/
import Derived.Test.YtolgdibgnndoaaaGreatZ13
import Derived.Test.YtolgdibgnndoaaaGreatZ07
import Derived.Test.YtolgdibgnndoaaaGreatZ15
import Derived.Test.YtolgdibgnndoaaaGreatZ11
import Derived.Test.YtolgdibgnndoaaaGreatZ08
import Derived.Test.YtolgdibgnndoaaaGreatZ09
import Derived.Test.YtolgdibgnndoaaaGreatZ14
import Derived.Test.YtolgdibgnndoaaaGreatZ06
set_option linter.all false
section
set_option maxRecDepth 100000
set_option maxHeartbeats 4000000
namespace Go.Proofs.YtolgdibgnndoaaaGreat
open Go Go.Sx Go.RowKit Go.Proofs
def isA (n : TNode) : Bool := decide (2 ≤ n.fOp) && decide (n.fOp ≤ 4)
def qA (q : List TNode) : List ByteArray := (q.filter isA).map TNode.fName
theorem a1J (q : List TNode) : (qA q).length ≤ q.length := by simp only [qA, List.length_map]; exact List.length_filter_le _ _
theorem a8b (q : List TNode) (k : Nat) (h : k < q.length) : qA (q.take (k + 1)) = qA (q.take k) ++ (if isA q[k] then [q[k].fName] else []) := by
 simp only [qA, List.take_succ_eq_append_getElem h, List.filter_append, List.map_append, List.filter_cons, List.filter_nil]
 cases isA q[k] <;> rfl
theorem a9t (q : List TNode) (hl : q.length ≤ 4300000) : FnC Tryz.prog 64 [.o (.d (.sl (q.map bC)))] (.o (.w 9 1 ((putL (qA q)).map bH))) := by
 refine ent Tryz.func64 rfl Tryz.call64 rfl (fun C => ?_); simp only [go_sem, st0, Tryz.ntmps64]
 refine aB ?_
 refine nM 3 0 rfl rfl ?_
 simp only [go_sem]
 refine bB (α := Nat) (fun k => [(3, .o (.d (.sl ((putL (qA (q.take k))).map bH)))), (4, oi k), (5, .o .u)]) (fun _ => []) (fun k => k ≤ q.length) (fun k => q.length - k) 0 (fun _ => ?_) ?_ ?_ (fun k hk => ?_)
 ·simp only [go_sem]
 ·simp only [go_sem]; simp [qA, putL]
 ·simp
 ·simp only [go_sem]
  refine aB ?_
  have hlen : (putL (qA (q.take k))).length ≤ 4300000 := by have h1 := gJ (qA (q.take k)); have h2 := a1J (q.take k); simp at h2; omega
  refine cnd rfl (fun h1 => ?_) (fun h1 => ?_)
  ·simp only [decide_eq_true_eq, Int.ofNat_lt] at h1
   have ht := a8b q k h1
   have q0 := @h1; refine jB (show FnC Tryz.prog _ _ (ob (isA q[k])) from bI q[k].fOp 2 4) ?_
   refine cnd rfl (fun hv => ?_) (fun hv => ?_)
   ·rw [hv] at ht
    simp only [if_true] at ht
    have q0 := @h1; refine jB (lI (putL (qA (q.take k))) q[k].fName hlen) ?_
    refine aD (k + 1) ?_ ?_ ?_
    ·simp only [go_sem, ht, sV]; simp
    ·omega
    ·omega
   ·rw [hv] at ht
    simp only [Bool.false_eq_true, if_false, List.append_nil] at ht
    have q0 := @h1; refine dZ ?_
    refine aD (k + 1) ?_ ?_ ?_
    ·simp only [go_sem, ht]; simp
    ·omega
    ·omega
  ·simp only [decide_eq_false_iff_not] at h1
   have e : k = q.length := by omega
   subst e
   rw [List.take_length] at *
   refine aB ?_
   exact aA ⟨⟨_, rfl, by simp only [go_sem, List.take_length]⟩, trivial⟩
theorem a9u (q : List TNode) (hl : q.length ≤ 4300000) : FnC Tryz.prog 56 [.o (.d (.sl (q.map bC)))] (.o (.w 9 1 ((fH (qA q)).map bH))) := by
 refine ent Tryz.func56 rfl Tryz.call56 rfl (fun C => ?_); simp only [go_sem, st0, Tryz.ntmps56]
 refine aB ?_
 refine bB (α := Nat) (fun k => [(3, .o (.s 0)), (6, .o .u), (9, oi k)]) (fun k => [(0, .row 9 1 ((qA (q.take k)).map bH) true)]) (fun k => k ≤ q.length) (fun k => q.length - k) 0 (fun _ => ?_) ?_ ?_ (fun k hk => ?_)
 ·simp only [go_sem]
 ·simp only [go_sem]; simp [qA]
 ·simp
 ·simp only [go_sem]
  refine aB ?_
  have hlen : (qA (q.take k)).length ≤ 4300000 := by have h2 := a1J (q.take k); simp at h2; omega
  refine cnd rfl (fun h1 => ?_) (fun h1 => ?_)
  ·simp only [decide_eq_true_eq, Int.ofNat_lt] at h1
   have ht := a8b q k h1
   have hl1 : (qA (q.take k)).length + 1 ≤ 140737488355328 := by omega
   have hl2 : ((qA (q.take k)).length + 1) * 16 ≤ 140737488355328 := by omega
   by_cases c2 : q[k].fOp = 2
   ·rw [if_pos (by simp [isA, c2])] at ht
    have q0 := @h1; have q1 := @c2; have q2 := @decide_true; refine mD ?_
    refine aD (k + 1) ?_ ?_ ?_
    ·simp only [go_sem, ht, List.map_append]; simp
    ·omega
    ·omega
   by_cases c3 : q[k].fOp = 3
   ·rw [if_pos (by simp [isA, c3])] at ht
    have q0 := @h1; have q1 := @c2; have q2 := @c3; have q3 := @decide_true; have q4 := @decide_false; refine xD ?_
    refine aD (k + 1) ?_ ?_ ?_
    ·simp only [go_sem, ht, List.map_append]; simp
    ·omega
    ·omega
   by_cases c4 : q[k].fOp = 4
   ·rw [if_pos (by simp [isA, c4])] at ht
    have q0 := @h1; have q1 := @c2; have q2 := @c3; have q3 := @c4; have q4 := @decide_true; have q5 := @decide_false; refine b0f ?_
    refine aD (k + 1) ?_ ?_ ?_
    ·simp only [go_sem, ht, List.map_append]; simp
    ·omega
    ·omega
   ·rw [if_neg (by simp only [isA, Bool.and_eq_true, decide_eq_true_eq]; omega), List.append_nil] at ht
    have q0 := @h1; have q1 := @c2; have q2 := @c3; have q3 := @c4; have q4 := @decide_true; have q5 := @decide_false; refine b0f ?_
    refine aD (k + 1) ?_ ?_ ?_
    ·simp only [go_sem, ht]; simp
    ·omega
    ·omega
  ·simp only [decide_eq_false_iff_not] at h1
   have e : k = q.length := by omega
   subst e
   rw [List.take_length] at *
   refine iV (kF (qA q) hlen) ?_
   exact aA ⟨⟨_, rfl, by simp only [go_sem, List.take_length]⟩, trivial⟩
def kL (q : List TNode) : Bool := q.any fun n => decide (n.fOp = 9)
theorem a7g (q : List TNode) (k : Nat) (h : k < q.length) : kL (q.drop k) = (decide (q[k].fOp = 9) || kL (q.drop (k + 1))) := by rw [List.drop_eq_getElem_cons h]; rfl
theorem uZ (q : List TNode) (hl : q.length ≤ 4300000) : FnC Tryz.prog 63 [.o (.d (.sl (q.map bC)))] (ob (kL q)) := by
 refine ent Tryz.func63 rfl Tryz.call63 rfl (fun C => ?_); simp only [go_sem, st0, Tryz.ntmps63]
 refine aB ?_
 refine bB (α := Nat) (fun k => [(3, oi k)]) (fun k => []) (fun k => k ≤ q.length ∧ kL (q.drop k) = kL q) (fun k => q.length - k) 0 (fun _ => ?_) ?_ ?_ (fun k hk => ?_)
 ·simp only [go_sem]
 ·simp only [go_sem]; try simp
 ·simp
 ·simp only [go_sem]
  obtain ⟨hk, hg⟩ := hk
  refine aB ?_
  refine cnd rfl (fun h1 => ?_) (fun h1 => ?_)
  ·simp only [decide_eq_true_eq, Int.ofNat_lt] at h1
   have hd := a7g q k h1
   rw [hg] at hd
   by_cases hv : q[k].fOp = 9
   ·have hd' : kL q = true := by rw [hd, hv]; simp
    have q0 := @h1; have q1 := @hv; have q2 := @decide_true; refine mD ?_
    exact aA ⟨⟨_, rfl, by simp only [go_sem, hd']⟩, trivial⟩
   ·have q0 := @h1; have q1 := @hv; have q2 := @decide_false; refine mD ?_
    refine aD (k + 1) ?_ ?_ ?_
    ·simp only [go_sem]; try simp
    ·exact ⟨by omega, by rw [hd]; simp [hv]⟩
    ·omega
  ·simp only [decide_eq_false_iff_not] at h1
   have e : k = q.length := by omega
   subst e
   have hn : kL q = false := by rw [← hg, List.drop_length]; rfl
   refine aB ?_
   exact aA ⟨⟨_, rfl, by simp only [go_sem, hn]⟩, trivial⟩
theorem b2R (attrs : List ByteArray) (s : ByteArray) (hl : attrs.length ≤ 4300000) : FnC Tryz.prog 58 [os s, .o (.q [.sl (attrs.map bH)])] (ob (hasS attrs s)) := by
 refine ent Tryz.func58 rfl Tryz.call58 rfl (fun C => ?_); simp only [go_sem, st0, Tryz.ntmps58]
 refine iV (fT attrs s hl) ?_
 exact aA ⟨⟨_, rfl, by simp only [go_sem]⟩, trivial⟩
theorem b2S (n : TNode) : FnC Tryz.prog 61 [a2w n] (ob (decide (n.fOp = 9))) := by
 refine ent Tryz.func61 rfl Tryz.call61 rfl (fun C => ?_); simp only [go_sem, st0, Tryz.ntmps61]
 refine aB ?_
 exact aA ⟨⟨_, rfl, by simp only [go_sem]⟩, trivial⟩
theorem yB (f : Nat) (p : TNode → Bool) (l : List TNode) (hf : ∀ s ∈ l, FnC Tryz.prog f [a2w s] (ob (p s))) (hl : l.length ≤ 8388608) : FnC Tryz.prog 130 [.o (.d (.sl (l.map bC))), .o (.f f [])] (oi (eU p l 0)) := by
 refine ent Tryz.func130 rfl Tryz.call130 rfl (fun C => ?_); simp only [go_sem, st0, Tryz.ntmps130]
 refine aB ?_
 refine bB (α := Nat) (fun k => [(8, oi k)]) (fun _ => []) (fun k => k ≤ l.length ∧ eU p l 0 = eU p (l.drop k) k) (fun k => l.length - k) 0 (fun _ => ?_) ?_ ?_ (fun k hk => ?_)
 ·simp only [go_sem]
 ·simp only [go_sem]; simp
 ·simp
 ·obtain ⟨hk, hq⟩ := hk
  simp only [go_sem]
  refine aB ?_
  refine cnd rfl (fun h => ?_) (fun h => ?_)
  ·simp only [decide_eq_true_eq, Int.ofNat_lt] at h
   have hd := List.drop_eq_getElem_cons h
   rw [hd, eU] at hq
   have q0 := @h; refine jB (hf l[k] (List.getElem_mem h)) ?_
   refine cnd rfl (fun h2 => ?_) (fun h2 => ?_)
   ·refine aB ?_
    exact aA ⟨⟨_, rfl, by simp only [go_sem, hq, h2]⟩, trivial⟩
   ·refine aB ?_
    refine aD (k + 1) ?_ ?_ ?_
    ·simp only [go_sem]; simp
    ·rw [hq, h2]; exact ⟨h, by simp⟩
    ·omega
  ·simp only [decide_eq_false_iff_not] at h
   have e : k = l.length := by omega
   subst e
   simp only [List.drop_length, eU] at hq
   refine aB ?_
   exact aA ⟨⟨_, rfl, by simp only [go_sem, hq]⟩, trivial⟩
theorem tF (f : Nat) (p : TNode → Bool) (l : List TNode) (hf : ∀ s ∈ l, FnC Tryz.prog f [a2w s] (ob (p s))) (hl : l.length ≤ 8388608) : FnC Tryz.prog 60 [.o (.d (.sl (l.map bC))), .o (.f f [])] (ob (l.any p)) := by
 refine ent Tryz.func60 rfl Tryz.call60 rfl (fun C => ?_); simp only [go_sem, st0, Tryz.ntmps60]
 refine iV (yB f p l hf hl) ?_
 exact aA ⟨⟨_, rfl, by simp only [go_sem, xU]⟩, trivial⟩
theorem zJ (f : Nat) (c : List D) (p : ByteArray → Bool) (l : List ByteArray) (hf : ∀ s ∈ l, FnC Tryz.prog f [os s, .o (.q c)] (ob (p s))) (hl : l.length ≤ 4300000) : FnC Tryz.prog 57 [.o (.d (.sl (l.map bH))), .o (.f f [c])] (ob (l.any p)) := by
 refine ent Tryz.func57 rfl Tryz.call57 rfl (fun C => ?_); simp only [go_sem, st0, Tryz.ntmps57]
 refine iV (uS f c p l hf hl) ?_
 exact aA ⟨⟨_, rfl, by simp only [go_sem, xU]⟩, trivial⟩
theorem qV (q : List TNode) (hl : q.length ≤ 4300000) : FnC Tryz.prog 56 [.o (.d (.sl (q.map bC)))] (.o (.d (.sl ((fH (qA q)).map bH)))) := (a9u q hl).pu (by simp only [go_sem, and_self])
theorem a1K (q : List TNode) (hl : q.length ≤ 4300000) : FnC Tryz.prog 64 [.o (.d (.sl (q.map bC)))] (.o (.d (.sl ((putL (qA q)).map bH)))) := (a9t q hl).pu (by simp only [go_sem, and_self])
theorem a0q (a b : TFile) (h : aW a + aW b ≤ 4300000) : FnC Tryz.prog 55 [dQ a, dQ b] (.o (.d (.sl ((fH (chg a b)).map bH)))) := (a1w a b h).pu (by simp only [go_sem, and_self])
theorem a0r (a b : TFile) (h : aW a + aW b ≤ 4300000) : FnC Tryz.prog 62 [dQ a, dQ b] (.o (.d (.sl ((putL (chg a b)).map bH)))) := (a1x a b h).pu (by simp only [go_sem, and_self])
def a7h (ch qa : List ByteArray) : Bool := qa.any (hasS ch)
theorem b1p (ch qa : List ByteArray) : (fH ch).any (hasS (fH qa)) = a7h ch qa := by
 rw [Bool.eq_iff_iff]
 simp only [a7h, List.any_eq_true, gI, jX]
 constructor <;> rintro ⟨x, h1, h2⟩ <;> exact ⟨x, h2, h1⟩
theorem a5P (ch qa : List ByteArray) : (putL qa).any (hasS (putL ch)) = a7h ch qa := by
 rw [Bool.eq_iff_iff]
 simp only [a7h, List.any_eq_true, gI, iY]
def affB (a b : TFile) (d : TDir) : Bool := a7h (chg a b) (qA d.fQuery) || (kL d.fQuery && !decide (a.fLink = b.fLink))
def oC (a b : TFile) (l : List TDir) : List ByteArray := (l.filter (affB a b)).map TDir.fName
def qW (a b : TFile) (l : List TDir) : List ByteArray := if a.fID = b.fID then oC a b l else dirNs l
theorem yC (a b : TFile) (l : List TDir) : (oC a b l).length ≤ l.length := by simp only [oC, List.length_map]; exact List.length_filter_le _ _
theorem zK (a b : TFile) (l : List TDir) (k : Nat) (h : k < l.length) : oC a b (l.take (k + 1)) = oC a b (l.take k) ++ (if affB a b l[k] then [l[k].fName] else []) := by
 simp only [oC, List.take_succ_eq_append_getElem h, List.filter_append, List.map_append, List.filter_cons, List.filter_nil]
 cases affB a b l[k] <;> rfl
theorem a5Q (l : List TDir) (k : Nat) (h : k < l.length) : l[k].fQuery.length ≤ dK l := by
 have h1 := eY mG l h
 have h2 : l[k].fQuery.length ≤ mG l[k] := by unfold mG gM; omega
 unfold dK
 omega
theorem a8c (a b : TFile) (h : aW a + aW b ≤ 4300000) : (chg a b).length ≤ 4300000 := by
 have h1 := a3Q a b (attrNs a.fAttrs ++ attrNs b.fAttrs)
 rw [List.length_append, fZ, fZ] at h1
 unfold aW eB at h
 unfold chg; omega
theorem a1X (l : List TDir) (a b : TFile) (h : dK l + (aW a + aW b) ≤ 4300000) : FnC Tryz.prog 14 [.o (.d (.sl (l.map bD))), dQ a, dQ b] (.o (.w 9 1 ((qW a b l).map bH))) := by
 have hl : l.length ≤ 4300000 := by unfold dK at h; omega
 have hch := a8c a b (by omega)
 refine ent Tryz.func14 rfl Tryz.call14 rfl (fun C => ?_); simp only [go_sem, st0, Tryz.ntmps14]
 by_cases hid : a.fID = b.fID
 case neg =>
  have hid' : decide (a.fID = b.fID) = false := by simp [hid]
  have q0 := @hid'; refine jB (a0a l hl) ?_
  exact aA ⟨⟨_, rfl, by simp only [go_sem, qW, hid, if_false]⟩, trivial⟩
 have hid' : decide (a.fID = b.fID) = true := by simp [hid]
 have q0 := @hid'; refine jB (a0q a b (by omega)) ?_
 refine bB (α := Nat) (fun k => [(8, .o (.s 2)), (24, .o .u), (27, oi k)]) (fun k => [(2, .row 9 1 ((oC a b (l.take k)).map bH) true)]) (fun k => k ≤ l.length) (fun k => l.length - k) 0 (fun _ => ?_) ?_ ?_ (fun k hk => ?_)
 ·simp only [go_sem]
 ·simp only [go_sem]; simp [oC]
 ·simp
 ·simp only [go_sem]
  refine aB ?_
  have hlen : (oC a b (l.take k)).length ≤ 4300000 := by have h2 := yC a b (l.take k); simp at h2; omega
  refine cnd rfl (fun h1 => ?_) (fun h1 => ?_)
  ·simp only [decide_eq_true_eq, Int.ofNat_lt] at h1
   have ht := zK a b l k h1
   have hq := a5Q l k h1
   have hqa := yZ (qA l[k].fQuery)
   have hqb := a1J l[k].fQuery
   have hl1 : (oC a b (l.take k)).length + 1 ≤ 140737488355328 := by omega
   have hl2 : ((oC a b (l.take k)).length + 1) * 16 ≤ 140737488355328 := by omega
   have hc := zJ 58 [.sl ((fH (qA l[k].fQuery)).map bH)] (hasS (fH (qA l[k].fQuery))) (fH (chg a b)) (fun s _ => b2R _ s (by omega)) (by have := yZ (chg a b); omega)
   rw [b1p] at hc
   have hn := tF 61 (fun n => decide (n.fOp = 9)) l[k].fQuery (fun n _ => b2S n) (by omega)
   have hn : FnC Tryz.prog _ _ (ob (kL l[k].fQuery)) := hn
   cases hh : a7h (chg a b) (qA l[k].fQuery)
   case true =>
    rw [if_pos (by simp [affB, hh])] at ht
    have q0 := @h1; have q1 := @hh; refine b6h (qV l[k].fQuery (by omega)) hc hn ?_
    refine aD (k + 1) ?_ ?_ ?_
    ·simp only [go_sem, ht, List.map_append]; simp
    ·omega
    ·omega
   cases hL : kL l[k].fQuery
   case false =>
    rw [if_neg (by simp [affB, hh, hL]), List.append_nil] at ht
    have q0 := @h1; have q1 := @hh; have q2 := @hL; refine b6j (qV l[k].fQuery (by omega)) hc hn ?_
    refine aD (k + 1) ?_ ?_ ?_
    ·simp only [go_sem, ht]; simp
    ·omega
    ·omega
   by_cases hk2 : a.fLink = b.fLink
   ·rw [if_neg (by simp [affB, hh, hL, hk2]), List.append_nil] at ht
    have hk' : decide (a.fLink = b.fLink) = true := by simp [hk2]
    have q0 := @h1; have q1 := @hh; have q2 := @hL; have q3 := @hk'; refine b4T (qV l[k].fQuery (by omega)) hc hn ?_
    refine aD (k + 1) ?_ ?_ ?_
    ·simp only [go_sem, ht]; simp
    ·omega
    ·omega
   ·rw [if_pos (by simp [affB, hh, hL, hk2])] at ht
    have hk' : decide (a.fLink = b.fLink) = false := by simp [hk2]
    have q0 := @h1; have q1 := @hh; have q2 := @hL; have q3 := @hk'; refine b4T (qV l[k].fQuery (by omega)) hc hn ?_
    refine aD (k + 1) ?_ ?_ ?_
    ·simp only [go_sem, ht, List.map_append]; simp
    ·omega
    ·omega
  ·simp only [decide_eq_false_iff_not] at h1
   have e : k = l.length := by omega
   subst e
   rw [List.take_length] at *
   refine aB ?_
   exact aA ⟨⟨_, rfl, by simp only [go_sem, List.take_length, qW, hid, if_true]⟩, trivial⟩
theorem a1Y (l : List TDir) (a b : TFile) (h : dK l + (aW a + aW b) ≤ 4300000) : FnC Tryz.prog 15 [.o (.d (.sl (l.map bD))), dQ a, dQ b] (.o (.w 9 1 ((qW a b l).map bH))) := by
 have hl : l.length ≤ 4300000 := by unfold dK at h; omega
 have hch := a8c a b (by omega)
 have hpl : (putL (chg a b)).length ≤ 4300000 := by have := gJ (chg a b); omega
 refine ent Tryz.func15 rfl Tryz.call15 rfl (fun C => ?_); simp only [go_sem, st0, Tryz.ntmps15]
 by_cases hid : a.fID = b.fID
 case neg =>
  have hid' : decide (a.fID = b.fID) = false := by simp [hid]
  have q0 := @hid'; refine jB (a0o l hl) ?_
  exact aA ⟨⟨_, rfl, by simp only [go_sem, qW, hid, if_false]⟩, trivial⟩
 have hid' : decide (a.fID = b.fID) = true := by simp [hid]
 have q0 := @hid'; refine jB (a0r a b (by omega)) ?_
 by_cases hk2 : a.fLink = b.fLink
 ·have hk' : decide (a.fLink = b.fLink) = true := by simp [hk2]
  refine bB (α := Nat) (fun k => [(7, .o (.s 2)), (9, oi k), (20, .o .u)]) (fun k => [(2, .row 9 1 ((oC a b (l.take k)).map bH) true)]) (fun k => k ≤ l.length) (fun k => l.length - k) 0 (fun _ => ?_) ?_ ?_ (fun k hk => ?_)
  ·simp only [go_sem]
  ·simp only [go_sem]; simp [oC]
  ·simp
  ·simp only [go_sem]
   refine aB ?_
   have hlen : (oC a b (l.take k)).length ≤ 4300000 := by have h2 := yC a b (l.take k); simp at h2; omega
   refine cnd rfl (fun h1 => ?_) (fun h1 => ?_)
   ·simp only [decide_eq_true_eq, Int.ofNat_lt] at h1
    have ht := zK a b l k h1
    have hq := a5Q l k h1
    have hqa := gJ (qA l[k].fQuery)
    have hqb := a1J l[k].fQuery
    have hl1 : (oC a b (l.take k)).length + 1 ≤ 140737488355328 := by omega
    have hl2 : ((oC a b (l.take k)).length + 1) * 16 ≤ 140737488355328 := by omega
    have hhit : affB a b l[k] = ((putL (qA l[k].fQuery)).any (hasS (putL (chg a b)))) := by rw [a5P]; simp [affB, hk2, Bool.or_comm]
    have hQl : (putL (qA l[k].fQuery)).length ≤ 4300000 := by omega
    have q0 := @h1; have q1 := @hk'; refine a6s (uZ l[k].fQuery (by omega)) (a1K l[k].fQuery (by omega)) ?_
    generalize putL (qA l[k].fQuery) = Q at *
    refine bB (α := Nat) (fun n => [(10, ob ((Q.take n).any (hasS (putL (chg a b))))), (12, oi n)]) (fun n => []) (fun n => n ≤ Q.length) (fun n => Q.length - n) 0 (fun _ => ?_) ?_ ?_ (fun n hn => ?_)
    ·simp only [go_sem]
    ·simp only [go_sem]; simp
    ·simp
    ·simp only [go_sem]
     refine aB ?_
     refine cnd rfl (fun h2 => ?_) (fun h2 => ?_)
     ·simp only [decide_eq_true_eq, Int.ofNat_lt] at h2
      have hv : ((Q.take (n + 1)).any (hasS (putL (chg a b)))) = (((Q.take n).any (hasS (putL (chg a b)))) || hasS (putL (chg a b)) Q[n]) := by rw [List.take_succ_eq_append_getElem h2, List.any_append]; simp [Bool.or_assoc]
      generalize ((Q.take n).any (hasS (putL (chg a b)))) = v at *
      cases v
      ·have q0 := @h2; refine jB (lL (putL (chg a b)) Q[n] hpl) ?_
       refine aD (n + 1) ?_ ?_ ?_
       ·simp only [go_sem, hv]; simp
       ·omega
       ·omega
      ·have q0 := @h2; refine jB (lL (putL (chg a b)) Q[n] hpl) ?_
       refine aD (n + 1) ?_ ?_ ?_
       ·simp only [go_sem, hv]; simp
       ·omega
       ·omega
     ·simp only [decide_eq_false_iff_not] at h2
      have e : n = Q.length := by omega
      subst e
      rw [List.take_length, ← hhit]
      refine aB ?_
      refine cnd (b := affB a b l[k]) rfl (fun hv => ?_) (fun hv => ?_)
      ·rw [if_pos hv] at ht
       have q0 := @h1; refine dZ ?_
       refine aD (k + 1) ?_ ?_ ?_
       ·simp only [go_sem, ht, List.map_append]; simp
       ·omega
       ·omega
      ·rw [if_neg (by simp [hv]), List.append_nil] at ht
       have q0 := @h1; refine dZ ?_
       refine aD (k + 1) ?_ ?_ ?_
       ·simp only [go_sem, ht]; simp
       ·omega
       ·omega
   ·simp only [decide_eq_false_iff_not] at h1
    have e : k = l.length := by omega
    subst e
    rw [List.take_length] at *
    refine aB ?_
    exact aA ⟨⟨_, rfl, by simp only [go_sem, List.take_length, qW, hid, if_true]⟩, trivial⟩
 ·have hk' : decide (a.fLink = b.fLink) = false := by simp [hk2]
  refine bB (α := Nat) (fun k => [(7, .o (.s 2)), (9, oi k), (20, .o .u)]) (fun k => [(2, .row 9 1 ((oC a b (l.take k)).map bH) true)]) (fun k => k ≤ l.length) (fun k => l.length - k) 0 (fun _ => ?_) ?_ ?_ (fun k hk => ?_)
  ·simp only [go_sem]
  ·simp only [go_sem]; simp [oC]
  ·simp
  ·simp only [go_sem]
   refine aB ?_
   have hlen : (oC a b (l.take k)).length ≤ 4300000 := by have h2 := yC a b (l.take k); simp at h2; omega
   refine cnd rfl (fun h1 => ?_) (fun h1 => ?_)
   ·simp only [decide_eq_true_eq, Int.ofNat_lt] at h1
    have ht := zK a b l k h1
    have hq := a5Q l k h1
    have hqa := gJ (qA l[k].fQuery)
    have hqb := a1J l[k].fQuery
    have hl1 : (oC a b (l.take k)).length + 1 ≤ 140737488355328 := by omega
    have hl2 : ((oC a b (l.take k)).length + 1) * 16 ≤ 140737488355328 := by omega
    have hhit : affB a b l[k] = (kL l[k].fQuery || (putL (qA l[k].fQuery)).any (hasS (putL (chg a b)))) := by rw [a5P]; simp [affB, hk2, Bool.or_comm]
    have hQl : (putL (qA l[k].fQuery)).length ≤ 4300000 := by omega
    have q0 := @h1; have q1 := @hk'; refine a6s (uZ l[k].fQuery (by omega)) (a1K l[k].fQuery (by omega)) ?_
    generalize putL (qA l[k].fQuery) = Q at *
    refine bB (α := Nat) (fun n => [(10, ob (kL l[k].fQuery || (Q.take n).any (hasS (putL (chg a b))))), (12, oi n)]) (fun n => []) (fun n => n ≤ Q.length) (fun n => Q.length - n) 0 (fun _ => ?_) ?_ ?_ (fun n hn => ?_)
    ·simp only [go_sem]
    ·simp only [go_sem]; simp
    ·simp
    ·simp only [go_sem]
     refine aB ?_
     refine cnd rfl (fun h2 => ?_) (fun h2 => ?_)
     ·simp only [decide_eq_true_eq, Int.ofNat_lt] at h2
      have hv : (kL l[k].fQuery || (Q.take (n + 1)).any (hasS (putL (chg a b)))) = ((kL l[k].fQuery || (Q.take n).any (hasS (putL (chg a b)))) || hasS (putL (chg a b)) Q[n]) := by rw [List.take_succ_eq_append_getElem h2, List.any_append]; simp [Bool.or_assoc]
      generalize (kL l[k].fQuery || (Q.take n).any (hasS (putL (chg a b)))) = v at *
      cases v
      ·have q0 := @h2; refine jB (lL (putL (chg a b)) Q[n] hpl) ?_
       refine aD (n + 1) ?_ ?_ ?_
       ·simp only [go_sem, hv]; simp
       ·omega
       ·omega
      ·have q0 := @h2; refine jB (lL (putL (chg a b)) Q[n] hpl) ?_
       refine aD (n + 1) ?_ ?_ ?_
       ·simp only [go_sem, hv]; simp
       ·omega
       ·omega
     ·simp only [decide_eq_false_iff_not] at h2
      have e : n = Q.length := by omega
      subst e
      rw [List.take_length, ← hhit]
      refine aB ?_
      refine cnd (b := affB a b l[k]) rfl (fun hv => ?_) (fun hv => ?_)
      ·rw [if_pos hv] at ht
       have q0 := @h1; refine dZ ?_
       refine aD (k + 1) ?_ ?_ ?_
       ·simp only [go_sem, ht, List.map_append]; simp
       ·omega
       ·omega
      ·rw [if_neg (by simp [hv]), List.append_nil] at ht
       have q0 := @h1; refine dZ ?_
       refine aD (k + 1) ?_ ?_ ?_
       ·simp only [go_sem, ht]; simp
       ·omega
       ·omega
   ·simp only [decide_eq_false_iff_not] at h1
    have e : k = l.length := by omega
    subst e
    rw [List.take_length] at *
    refine aB ?_
    exact aA ⟨⟨_, rfl, by simp only [go_sem, List.take_length, qW, hid, if_true]⟩, trivial⟩
theorem tH (l : List TDir) (a b : TFile) (h : dK l + (aW a + aW b) ≤ 4300000) : FnC Tryz.prog 14 [.o (.d (.sl (l.map bD))), dQ a, dQ b] (.o (.d (.sl ((qW a b l).map bH)))) := (a1X l a b h).pu (by simp only [go_sem, and_self])
theorem tJ (l : List TDir) (a b : TFile) (h : dK l + (aW a + aW b) ≤ 4300000) : FnC Tryz.prog 15 [.o (.d (.sl (l.map bD))), dQ a, dQ b] (.o (.d (.sl ((qW a b l).map bH)))) := (a1Y l a b h).pu (by simp only [go_sem, and_self])
end Go.Proofs.YtolgdibgnndoaaaGreat
end
section
set_option maxRecDepth 100000
set_option maxHeartbeats 4000000
namespace Go.Proofs.YtolgdibgnndoaaaGreat
open Go Go.Sx Go.RowKit Go.Proofs Go.Sx.Clos
def isD (n : TNode) : Bool := decide (8 ≤ n.fOp) && decide (n.fOp ≤ 9)
def qD (q : List TNode) : List ByteArray := (q.filter isD).map TNode.fName
theorem a4d (q : List TNode) : (qD q).length ≤ q.length := by simp only [qD, List.length_map]; exact List.length_filter_le _ _
theorem a7Y (q : List TNode) (k : Nat) (h : k < q.length) : qD (q.take (k + 1)) = qD (q.take k) ++ (if isD q[k] then [q[k].fName] else []) := by
 simp only [qD, List.take_succ_eq_append_getElem h, List.filter_append, List.map_append, List.filter_cons, List.filter_nil]
 cases isD q[k] <;> rfl
def eD (l : List TDir) : List (ByteArray × List ByteArray) := l.map fun d => (d.fName, putL (qD d.fQuery))
theorem b1k (l : List TDir) : (eD l).length = l.length := by simp [eD]
def wS (s : ByteArray) : Nat := 1 + s.size
def pot (l : List TDir) (o : List ByteArray) : Nat := wsm wS o + iJ wS (eD l) o
def nmD (l : List TDir) (y : ByteArray) : Prop := ∃ e ∈ eD l, e.1 = y
theorem a7d (l : List TDir) (d : TDir) (h : d ∈ l) : nmD l d.fName := ⟨_, List.mem_map.2 ⟨d, h, rfl⟩, rfl⟩
theorem a4e (a b : List ByteArray) : wsm wS (a ++ b) = wsm wS a + wsm wS b := by
 induction a with
 | nil => simp [wsm]
 | cons x a ih => simp only [List.cons_append, wsm, ih]; omega
theorem b1l (l : List ByteArray) : wsm wS l = oV l := by
 unfold oV
 induction l with
 | nil => simp [wsm, dD]
 | cons x l ih => simp only [wsm, dD, wS, List.length_cons, ih]; omega
theorem b2N (l : List ByteArray) : l.length ≤ wsm wS l := by rw [b1l]; unfold oV; omega
theorem xY (l : List TDir) (o : List ByteArray) : o.length ≤ pot l o := by have := b2N o; unfold pot; omega
theorem a5K (o : List ByteArray) (s : ByteArray) : wsm wS (putS o s) ≤ wsm wS o + wS s := by
 unfold putS
 split
 ·omega
 ·unfold iA
  have h := congrArg (wsm wS) (List.take_append_drop (dM (geS s) o) o)
  rw [a4e] at h
  rw [a4e]
  simp only [wsm]
  omega
theorem b1m (o : List ByteArray) (s : ByteArray) (h : o.Pairwise ltS) (hs : s ∈ o) : putS o s = o :=
 tC a1I zI (nP s h) h fun x => by
  rw [kK]
  constructor
  ·rintro (rfl | h)
   ·exact hs
   ·exact h
  ·exact .inr
def okS (l : List TDir) (B : Nat) (o : List ByteArray) : Prop := o.Pairwise ltS ∧ pot l o ≤ B
theorem a4f {l : List TDir} {B : Nat} (o : List ByteArray) (s : ByteArray) (h : okS l B o) (hs : nmD l s) : okS l B (putS o s) := by
 refine ⟨nP s h.1, Nat.le_trans ?_ h.2⟩
 by_cases hm : s ∈ o
 ·rw [b1m o s h.1 hm]; exact Nat.le_refl _
 ·have h1 := a5K o s
  have h2 := zH wS (eD l) (S := o) (T := putS o s) (fun x hx => (kK o s x).2 (.inr hx)) hs ((kK o s s).2 (.inl rfl)) hm
  unfold pot; omega
theorem a9o (l : List ByteArray) : ∀ a : List ByteArray, wsm wS (l.foldl putS a) ≤ wsm wS a + wsm wS l := by
 induction l with
 | nil => intro a; simp [wsm]
 | cons y l ih =>
  intro a
  have h1 := ih (putS a y)
  have h2 := a5K a y
  simp only [List.foldl_cons, wsm]; omega
theorem b1n (l : List TDir) (names : List ByteArray) : okS l (pot l names) (putL names) := by
 refine ⟨a5O names, ?_⟩
 have h1 := a9o names []
 have h2 := a0e wS (eD l) (S := names) (T := putL names) (fun x hx => (iY names x).2 hx)
 simp only [wsm] at h1
 unfold pot putL at *
 omega
def nO (l : List TDir) (names : List ByteArray) (n : Nat) : List ByteArray := gP putS (eD l) n (putL names)
def tdS (l : List TDir) (names : List ByteArray) : List ByteArray := nO l names (l.length + 1)
theorem vZ (l : List TDir) (names : List ByteArray) (n : Nat) : okS l (pot l names) (nO l names n) :=
 a1H (Nm := nmD l) (fun o s h hs => a4f o s h hs) (eD l) (fun e he => ⟨e, he, rfl⟩) (b1n l names) n
theorem a9p (l : List TDir) (B i : Nat) (S : List ByteArray) (h : okS l B S) : okS l B (round putS (eD (l.take i)) S) :=
 a2V (Nm := nmD l) (fun o s h hs => a4f o s h hs) (eD (l.take i)) (fun e he => by
  obtain ⟨d, hd, rfl⟩ := List.mem_map.1 he
  exact a7d l d (List.mem_of_mem_take hd)) S h
theorem b2O (l : List TDir) (B : Nat) (d : TDir) (hd : d ∈ l) (az S : List ByteArray) (h : okS l B S) : okS l B (askC putS d.fName S az) :=
 a8a (Nm := nmD l) (fun o s h hs => a4f o s h hs) d.fName (a7d l d hd) az S h
theorem a7Z {l : List TDir} {B : Nat} {o : List ByteArray} (h : okS l B o) : o.length ≤ B := Nat.le_trans (xY l o) h.2
theorem a7e (l : List TDir) (S : List ByteArray) (i : Nat) (h : i < l.length) : round putS (eD (l.take (i + 1))) S = askC putS l[i].fName (round putS (eD (l.take i)) S) (putL (qD l[i].fQuery)) := by
 simp only [round, eD, List.take_succ_eq_append_getElem h, List.map_append, List.map_cons, List.map_nil, List.foldl_append, List.foldl_cons, List.foldl_nil]
theorem b4w (n : ByteArray) (S Q : List ByteArray) (k : Nat) (h : k < Q.length) (hm : Q[k] ∈ askC putS n S (Q.take k)) : askC putS n S (Q.take (k + 1)) = putS (askC putS n S (Q.take k)) n := by
 unfold askC at *
 rw [List.take_succ_eq_append_getElem h, List.foldl_append, List.foldl_cons, List.foldl_nil, if_pos hm]
theorem b2P (n : ByteArray) (S Q : List ByteArray) (k : Nat) (h : k < Q.length) (hm : ¬ Q[k] ∈ askC putS n S (Q.take k)) : askC putS n S (Q.take (k + 1)) = askC putS n S (Q.take k) := by
 unfold askC at *
 rw [List.take_succ_eq_append_getElem h, List.foldl_append, List.foldl_cons, List.foldl_nil, if_neg hm]
def qU (l : List TDir) (s : ByteArray) : List ByteArray := (l.filter fun d => hasS (qD d.fQuery) s).map TDir.fName
theorem a5L (l : List TDir) (s y : ByteArray) : y ∈ qU l s ↔ ∃ d ∈ l, s ∈ qD d.fQuery ∧ d.fName = y := by
 unfold qU
 rw [List.mem_map]
 constructor
 ·rintro ⟨d, hd, rfl⟩
  rw [List.mem_filter] at hd
  exact ⟨d, hd.1, (gI _ _).1 hd.2, rfl⟩
 ·rintro ⟨d, hd, hs, rfl⟩
  exact ⟨d, List.mem_filter.2 ⟨hd, (gI _ _).2 hs⟩, rfl⟩
theorem a5M (l : List TDir) (s : ByteArray) : (qU l s).length ≤ l.length := by simp only [qU, List.length_map]; exact List.length_filter_le _ _
theorem a9q (l : List TDir) (s : ByteArray) (k : Nat) (h : k < l.length) : qU (l.take (k + 1)) s = qU (l.take k) s ++ (if hasS (qD l[k].fQuery) s then [l[k].fName] else []) := by
 simp only [qU, List.take_succ_eq_append_getElem h, List.filter_append, List.map_append, List.filter_cons, List.filter_nil]
 cases hasS (qD l[k].fQuery) s <;> rfl
structure Good (l : List TDir) (names o : List ByteArray) : Prop where
 ext : ∀ x ∈ names, x ∈ o
 least : ∀ T, Closed (eD l) T → (∀ x ∈ names, x ∈ T) → ∀ x ∈ o, x ∈ T
 le : pot l o ≤ pot l names
theorem Good.start (l : List TDir) (names : List ByteArray) : Good l names names := ⟨fun _ h => h, fun _ _ h => h, Nat.le_refl _⟩
theorem Good.add {l : List TDir} {names o : List ByteArray} (g : Good l names o) {x y : ByteArray} (hx : x ∈ o) (hy : y ∈ qU l x) (hn : ¬ y ∈ o) : Good l names (o ++ [y]) := by
 obtain ⟨d, hd, hq, rfl⟩ := (a5L l x y).1 hy
 refine ⟨fun z hz => List.mem_append_left _ (g.ext z hz), fun T hT h z hz => ?_, ?_⟩
 ·rcases List.mem_append.1 hz with h1 | h1
  ·exact g.least T hT h z h1
  ·simp only [List.mem_singleton] at h1
   subst h1
   exact hT _ (List.mem_map.2 ⟨d, hd, rfl⟩) ⟨x, (iY _ _).2 hq, g.least T hT h x hx⟩
 ·have h1 := zH wS (eD l) (S := o) (T := o ++ [d.fName]) (fun z hz => List.mem_append_left _ hz) (a7d l d hd) (by simp) hn
  have h2 := g.le
  have h3 := a4e o [d.fName]
  simp only [wsm] at h3
  unfold pot at *
  omega
theorem Good.done {l : List TDir} {names o : List ByteArray} (g : Good l names o) (hc : ∀ x ∈ o, ∀ y ∈ qU l x, y ∈ o) : fH o = tdS l names := by
 refine tC a1I zI (a4h o) (vZ l names (l.length + 1)).1 fun x => ?_
 rw [jX]
 have h := a5N (put := putS) kK (eD l) (S := putL names) (O := o) (fun x hx => g.ext x ((iY _ _).1 hx)) (fun e he hx => by
  obtain ⟨d, hd, rfl⟩ := List.mem_map.1 he
  obtain ⟨x, hx, ho⟩ := hx
  exact hc x ho _ ((a5L l x _).2 ⟨d, hd, (iY _ _).1 hx, rfl⟩)) (fun T hT hs => g.least T hT fun x hx => hs x ((iY _ _).2 hx)) x
 rw [b1k] at h
 exact h
theorem a9l (q : List TNode) (hl : q.length ≤ 4300000) : FnC Tryz.prog 125 [.o (.d (.sl (q.map bC)))] (.o (.w 9 1 ((putL (qD q)).map bH))) := by
 refine ent Tryz.func125 rfl Tryz.call125 rfl (fun C => ?_); simp only [go_sem, st0, Tryz.ntmps125]
 refine aB ?_
 refine nM 3 0 rfl rfl ?_
 simp only [go_sem]
 refine bB (α := Nat) (fun k => [(3, .o (.d (.sl ((putL (qD (q.take k))).map bH)))), (4, oi k), (5, .o .u)]) (fun _ => []) (fun k => k ≤ q.length) (fun k => q.length - k) 0 (fun _ => ?_) ?_ ?_ (fun k hk => ?_)
 ·simp only [go_sem]
 ·simp only [go_sem]; simp [qD, putL]
 ·simp
 ·simp only [go_sem]
  refine aB ?_
  have hlen : (putL (qD (q.take k))).length ≤ 4300000 := by have h1 := gJ (qD (q.take k)); have h2 := a4d (q.take k); simp at h2; omega
  refine cnd rfl (fun h1 => ?_) (fun h1 => ?_)
  ·simp only [decide_eq_true_eq, Int.ofNat_lt] at h1
   have ht := a7Y q k h1
   have q0 := @h1; refine jB (show FnC Tryz.prog _ _ (ob (isD q[k])) from bI q[k].fOp 8 9) ?_
   refine cnd rfl (fun hv => ?_) (fun hv => ?_)
   ·rw [hv] at ht
    simp only [if_true] at ht
    have q0 := @h1; refine jB (lI (putL (qD (q.take k))) q[k].fName hlen) ?_
    refine aD (k + 1) ?_ ?_ ?_
    ·simp only [go_sem, ht, sV]; simp
    ·omega
    ·omega
   ·rw [hv] at ht
    simp only [Bool.false_eq_true, if_false, List.append_nil] at ht
    have q0 := @h1; refine dZ ?_
    refine aD (k + 1) ?_ ?_ ?_
    ·simp only [go_sem, ht]; simp
    ·omega
    ·omega
  ·simp only [decide_eq_false_iff_not] at h1
   have e : k = q.length := by omega
   subst e
   rw [List.take_length] at *
   refine aB ?_
   exact aA ⟨⟨_, rfl, by simp only [go_sem, List.take_length]⟩, trivial⟩
theorem a5I (n : TNode) : FnC Tryz.prog 232 [a2w n] (ob (isD n)) := by
 refine ent Tryz.func232 rfl Tryz.call232 rfl (fun C => ?_); simp only [go_sem, st0, Tryz.ntmps232]
 by_cases c8 : n.fOp = 8
 ·have hd : isD n = true := by simp [isD, c8]
  have q0 := @c8; have q1 := @decide_true; refine gT ?_
  exact aA ⟨⟨_, rfl, by simp only [go_sem, hd]⟩, trivial⟩
 by_cases c9 : n.fOp = 9
 ·have hd : isD n = true := by simp [isD, c9]
  have q0 := @c8; have q1 := @c9; have q2 := @decide_true; have q3 := @decide_false; refine mE ?_
  exact aA ⟨⟨_, rfl, by simp only [go_sem, hd]⟩, trivial⟩
 ·have hd : isD n = false := by
   rw [← Bool.not_eq_true]
   simp only [isD, Bool.and_eq_true, decide_eq_true_eq]; omega
  have q0 := @c8; have q1 := @c9; have q2 := @decide_true; have q3 := @decide_false; refine mE ?_
  exact aA ⟨⟨_, rfl, by simp only [go_sem, hd]⟩, trivial⟩
theorem a9m (q : List TNode) (hl : q.length ≤ 4300000) : FnC Tryz.prog 191 [.o (.d (.sl (q.map bC)))] (.o (.w 9 1 ((fH (qD q)).map bH))) := by
 refine ent Tryz.func191 rfl Tryz.call191 rfl (fun C => ?_); simp only [go_sem, st0, Tryz.ntmps191]
 refine aB ?_
 refine bB (α := Nat) (fun k => [(3, .o (.s 0)), (6, .o .u), (9, oi k)]) (fun k => [(0, .row 9 1 ((qD (q.take k)).map bH) true)]) (fun k => k ≤ q.length) (fun k => q.length - k) 0 (fun _ => ?_) ?_ ?_ (fun k hk => ?_)
 ·simp only [go_sem]
 ·simp only [go_sem]; simp [qD]
 ·simp
 ·simp only [go_sem]
  refine aB ?_
  have hlen : (qD (q.take k)).length ≤ 4300000 := by have h2 := a4d (q.take k); simp at h2; omega
  refine cnd rfl (fun h1 => ?_) (fun h1 => ?_)
  ·simp only [decide_eq_true_eq, Int.ofNat_lt] at h1
   have ht := a7Y q k h1
   have hl1 : (qD (q.take k)).length + 1 ≤ 140737488355328 := by omega
   have hl2 : ((qD (q.take k)).length + 1) * 16 ≤ 140737488355328 := by omega
   have q0 := @h1; refine jB (a5I q[k]) ?_
   refine cnd (b := isD q[k]) rfl (fun hv => ?_) (fun hv => ?_)
   ·rw [if_pos hv] at ht
    have q0 := @h1; refine dZ ?_
    refine aD (k + 1) ?_ ?_ ?_
    ·simp only [go_sem, ht, List.map_append]; simp
    ·omega
    ·omega
   ·rw [if_neg (by simp [hv]), List.append_nil] at ht
    have q0 := @h1; refine dZ ?_
    refine aD (k + 1) ?_ ?_ ?_
    ·simp only [go_sem, ht]; simp
    ·omega
    ·omega
  ·simp only [decide_eq_false_iff_not] at h1
   have e : k = q.length := by omega
   subst e
   rw [List.take_length] at *
   refine iV (kF (qD q) hlen) ?_
   exact aA ⟨⟨_, rfl, by simp only [go_sem, List.take_length]⟩, trivial⟩
theorem a7a (q : List TNode) (hl : q.length ≤ 4300000) : FnC Tryz.prog 191 [.o (.d (.sl (q.map bC)))] (.o (.d (.sl ((fH (qD q)).map bH)))) := (a9m q hl).pu (by simp only [go_sem, and_self])
theorem a7b (q : List TNode) (hl : q.length ≤ 4300000) : FnC Tryz.prog 125 [.o (.d (.sl (q.map bC)))] (.o (.d (.sl ((putL (qD q)).map bH)))) := (a9l q hl).pu (by simp only [go_sem, and_self])
theorem a9n (l : List ByteArray) (s : ByteArray) : hasS (fH l) s = hasS l s := by rw [Bool.eq_iff_iff, gI, gI, jX]
theorem a7c (l : List TDir) (s : ByteArray) (h : dK l ≤ 4300000) : FnC Tryz.prog 122 [.o (.d (.sl (l.map bD))), os s] (.o (.w 9 1 ((qU l s).map bH))) := by
 have hl : l.length ≤ 4300000 := by unfold dK at h; omega
 refine ent Tryz.func122 rfl Tryz.call122 rfl (fun C => ?_); simp only [go_sem, st0, Tryz.ntmps122]
 refine aB ?_
 refine bB (α := Nat) (fun k => [(5, .o (.s 0)), (8, .o .u), (11, oi k)]) (fun k => [(0, .row 9 1 ((qU (l.take k) s).map bH) true)]) (fun k => k ≤ l.length) (fun k => l.length - k) 0 (fun _ => ?_) ?_ ?_ (fun k hk => ?_)
 ·simp only [go_sem]
 ·simp only [go_sem]; simp [qU]
 ·simp
 ·simp only [go_sem]
  refine aB ?_
  have hlen : (qU (l.take k) s).length ≤ 4300000 := by have h2 := a5M (l.take k) s; simp at h2; omega
  refine cnd rfl (fun h1 => ?_) (fun h1 => ?_)
  ·simp only [decide_eq_true_eq, Int.ofNat_lt] at h1
   have ht := a9q l s k h1
   have hq := a5Q l k h1
   have hqa := yZ (qD l[k].fQuery)
   have hqb := a4d l[k].fQuery
   have hl1 : (qU (l.take k) s).length + 1 ≤ 140737488355328 := by omega
   have hl2 : ((qU (l.take k) s).length + 1) * 16 ≤ 140737488355328 := by omega
   have hc := fT (fH (qD l[k].fQuery)) s (by omega)
   rw [a9n] at hc
   have q0 := @h1; refine a8A (a7a l[k].fQuery (by omega)) hc ?_
   refine cnd (b := hasS (qD l[k].fQuery) s) rfl (fun hv => ?_) (fun hv => ?_)
   ·rw [if_pos hv] at ht
    have q0 := @h1; refine dZ ?_
    refine aD (k + 1) ?_ ?_ ?_
    ·simp only [go_sem, ht, List.map_append]; simp
    ·omega
    ·omega
   ·rw [if_neg (by simp [hv]), List.append_nil] at ht
    have q0 := @h1; refine dZ ?_
    refine aD (k + 1) ?_ ?_ ?_
    ·simp only [go_sem, ht]; simp
    ·omega
    ·omega
  ·simp only [decide_eq_false_iff_not] at h1
   have e : k = l.length := by omega
   subst e
   rw [List.take_length] at *
   refine aB ?_
   exact aA ⟨⟨_, rfl, by simp only [go_sem, List.take_length]⟩, trivial⟩
theorem a5J (l : List TDir) (s : ByteArray) (h : dK l ≤ 4300000) : FnC Tryz.prog 122 [.o (.d (.sl (l.map bD))), os s] (.o (.d (.sl ((qU l s).map bH)))) := (a7c l s h).pu (by simp only [go_sem, and_self])
theorem a9j (l : List TDir) (names : List ByteArray) (h : dK l ≤ 4300000) (hB : pot l names ≤ 4300000) : FnC Tryz.prog 51 [.o (.d (.sl (l.map bD))), .o (.d (.sl (names.map bH)))] (.o (.w 9 1 ((tdS l names).map bH))) := by
 have hl : l.length ≤ 4300000 := by unfold dK at h; omega
 have hnl : names.length ≤ 4300000 := Nat.le_trans (xY l names) hB
 refine ent Tryz.func51 rfl Tryz.call51 rfl (fun C => ?_); simp only [go_sem, st0, Tryz.ntmps51]
 refine iV (zV names hnl) ?_
 refine bB (α := Nat × List ByteArray) (fun x => [(5, .o (.s 0)), (6, oi x.1), (10, .o .u)]) (fun x => [(0, .row 9 1 (x.2.map bH) true)]) (fun x => x.1 ≤ x.2.length ∧ Good l names x.2 ∧ ∀ z ∈ x.2.take x.1, ∀ y ∈ qU l z, y ∈ x.2) (fun x => 4300001 - x.1) (0, names) (fun _ => ?_) ?_ ?_ (fun x hx => ?_)
 ·simp only [go_sem]
 ·simp only [go_sem]; simp
 ·exact ⟨Nat.zero_le _, Good.start l names, by simp⟩
 ·obtain ⟨i, o⟩ := x
  obtain ⟨hi, hg, hp⟩ := hx
  simp only at hi hg hp
  have hol : o.length ≤ 4300000 := Nat.le_trans (xY l o) (Nat.le_trans hg.le hB)
  simp only [go_sem]
  refine aB ?_
  refine cnd rfl (fun h1 => ?_) (fun h1 => ?_)
  ·simp only [decide_eq_true_eq, Int.ofNat_lt] at h1
   have hoi : o[i] ∈ o.take (i + 1) := by rw [List.take_succ_eq_append_getElem h1]; exact List.mem_append_right _ List.mem_cons_self
   have hLl := a5M l o[i]
   have q0 := @h1; refine jB (a5J l o[i] h) ?_
   generalize hL : qU l o[i] = L at *
   refine bB (α := Nat × List ByteArray) (fun y => [(5, .o (.s 0)), (12, .o .u), (18, .o .u), (20, .o .u), (24, oi y.1)]) (fun y => [(0, .row 9 1 (y.2.map bH) true)]) (fun y => y.1 ≤ L.length ∧ Good l names y.2 ∧ y.2.take (i + 1) = o.take (i + 1) ∧ i < y.2.length ∧ (∀ z ∈ L.take y.1, z ∈ y.2) ∧ ∀ z ∈ o.take i, ∀ y' ∈ qU l z, y' ∈ y.2) (fun y => L.length - y.1) (0, o) (fun _ => ?_) ?_ ?_ (fun y hy => ?_)
   ·simp only [go_sem]
   ·simp only [go_sem]; simp
   ·exact ⟨Nat.zero_le _, hg, rfl, h1, by simp, hp⟩
   ·obtain ⟨k, q⟩ := y
    obtain ⟨hk, hgq, htk, hiq, hdn, hpq⟩ := hy
    simp only at hk hgq htk hiq hdn hpq
    have hql : q.length ≤ 4300000 := Nat.le_trans (xY l q) (Nat.le_trans hgq.le hB)
    simp only [go_sem]
    refine aB ?_
    refine cnd rfl (fun h2 => ?_) (fun h2 => ?_)
    ·simp only [decide_eq_true_eq, Int.ofNat_lt] at h2
     have hqi : o[i] ∈ q := by rw [← htk] at hoi; exact List.mem_of_mem_take hoi
     have hll1 : q.length + 1 ≤ 140737488355328 := by omega
     have hll2 : (q.length + 1) * 16 ≤ 140737488355328 := by omega
     have qH := @h2; repeat' (with_reducible first | refine nY ?_ | (refine mX ?_; try simp only [go_sem, qH]) | refine kD ?_ | refine rD ?_ | refine vL (fT q L[k] hql) ?_ | refine aO ?_ | fail)
     refine cnd (b := !hasS q L[k]) rfl (fun hv => ?_) (fun hv => ?_)
     ·have hm : ¬ L[k] ∈ q := fun hm => by rw [(gI q L[k]).2 hm] at hv; cases hv
      have q0 := @h2; refine dZ ?_
      refine aD (k + 1, q ++ [L[k]]) ?_ ?_ ?_
      ·simp only [go_sem, List.map_append]; simp
      ·refine ⟨h2, hgq.add hqi (by rw [hL]; exact List.getElem_mem h2) hm, ?_, by simp; omega, fun z hz => ?_, fun z hz y' hy' => List.mem_append_left _ (hpq z hz y' hy')⟩
       ·rw [List.take_append_of_le_length (by omega)]; exact htk
       ·rw [List.take_succ_eq_append_getElem h2] at hz
        rcases List.mem_append.1 hz with hz | hz
        ·exact List.mem_append_left _ (hdn z hz)
        ·exact List.mem_append_right _ hz
      ·simp only; omega
     ·have hm : L[k] ∈ q := (gI q L[k]).1 (by simpa using hv)
      have q0 := @h2; refine dZ ?_
      refine aD (k + 1, q) ?_ ?_ ?_
      ·simp only [go_sem]; simp
      ·refine ⟨h2, hgq, htk, hiq, fun z hz => ?_, hpq⟩
       rw [List.take_succ_eq_append_getElem h2] at hz
       rcases List.mem_append.1 hz with hz | hz
       ·exact hdn z hz
       ·simp only [List.mem_singleton] at hz; subst hz; exact hm
      ·simp only; omega
    ·simp only [decide_eq_false_iff_not] at h2
     have e : k = L.length := by omega
     subst e
     rw [List.take_length] at hdn
     refine aB ?_
     refine aD (i + 1, q) ?_ ?_ ?_
     ·simp only [go_sem]; simp
     ·refine ⟨hiq, hgq, fun z hz y' hy' => ?_⟩
      simp only at hz
      rw [htk, List.take_succ_eq_append_getElem h1] at hz
      rcases List.mem_append.1 hz with hz | hz
      ·exact hpq z hz y' hy'
      ·simp only [List.mem_singleton] at hz; subst hz; rw [hL] at hy'; exact hdn y' hy'
     ·simp only; omega
  ·simp only [decide_eq_false_iff_not] at h1
   have e : i = o.length := by omega
   subst e
   rw [List.take_length] at hp
   have hd := hg.done hp
   refine iV (kF o hol) ?_
   exact aA ⟨⟨_, rfl, by simp only [go_sem, hd]⟩, trivial⟩
theorem a9k (l : List TDir) (names : List ByteArray) (h : dK l ≤ 4300000) (hB : pot l names ≤ 4300000) : FnC Tryz.prog 53 [.o (.d (.sl (l.map bD))), .o (.d (.sl (names.map bH)))] (.o (.w 9 1 ((tdS l names).map bH))) := by
 have hl : l.length ≤ 4300000 := by unfold dK at h; omega
 have hnl : names.length ≤ 4300000 := Nat.le_trans (xY l names) hB
 refine ent Tryz.func53 rfl Tryz.call53 rfl (fun C => ?_); simp only [go_sem, st0, Tryz.ntmps53]
 refine aB ?_
 refine nM 5 0 rfl rfl ?_
 simp only [go_sem]
 refine bB (α := Nat) (fun k => [(5, .o (.d (.sl ((putL (names.take k)).map bH)))), (6, oi k)]) (fun _ => []) (fun k => k ≤ names.length) (fun k => names.length - k) 0 (fun _ => ?_) ?_ ?_ (fun k hk => ?_)
 ·simp only [go_sem]
 ·simp only [go_sem]; simp [putL]
 ·simp
 ·simp only [go_sem]
  refine aB ?_
  have hlen : (putL (names.take k)).length ≤ 4300000 := by have h1 := gJ (names.take k); simp at h1; omega
  refine cnd rfl (fun h1 => ?_) (fun h1 => ?_)
  ·simp only [decide_eq_true_eq, Int.ofNat_lt] at h1
   have ht := sV (names.take k) names[k]
   rw [← List.take_succ_eq_append_getElem h1] at ht
   have q0 := @h1; refine jB (lI (putL (names.take k)) names[k] hlen) ?_
   refine aD (k + 1) ?_ ?_ ?_
   ·simp only [go_sem, ht]; simp
   ·omega
   ·omega
  ·simp only [decide_eq_false_iff_not] at h1
   have e : k = names.length := by omega
   subst e
   rw [List.take_length] at *
   refine aB ?_
   refine bB (α := Nat) (fun r => [(5, .o (.d (.sl ((nO l names r).map bH)))), (7, oi r)]) (fun _ => []) (fun r => r ≤ l.length + 1) (fun r => l.length + 1 - r) 0 (fun _ => ?_) ?_ ?_ (fun r hr => ?_)
   ·simp only [go_sem]
   ·simp only [go_sem]; simp [nO, gP]
   ·simp
   ·simp only [go_sem]
    refine aB ?_
    have hokR := vZ l names r
    have hRl := Nat.le_trans (a7Z hokR) hB
    refine cnd rfl (fun h2 => ?_) (fun h2 => ?_)
    ·simp only [decide_eq_true_eq, Int.ofNat_le] at h2
     refine aB ?_
     refine bB (α := Nat) (fun i => [(5, .o (.d (.sl ((round putS (eD (l.take i)) (nO l names r)).map bH)))), (8, oi i)]) (fun _ => []) (fun i => i ≤ l.length) (fun i => l.length - i) 0 (fun _ => ?_) ?_ ?_ (fun i hi => ?_)
     ·simp only [go_sem]
     ·simp only [go_sem]; simp [round, eD]
     ·simp
     ·simp only [go_sem]
      refine aB ?_
      have hokI := a9p l (pot l names) i _ hokR
      refine cnd rfl (fun h3 => ?_) (fun h3 => ?_)
      ·simp only [decide_eq_true_eq, Int.ofNat_lt] at h3
       have ht := a7e l (nO l names r) i h3
       have hq := a5Q l i h3
       have hqb := a4d l[i].fQuery
       have hqc := gJ (qD l[i].fQuery)
       generalize round putS (eD (l.take i)) (nO l names r) = O at *
       have q0 := @h3; refine jB (a7b l[i].fQuery (by omega)) ?_
       generalize putL (qD l[i].fQuery) = Q at *
       refine bB (α := Nat) (fun k => [(5, .o (.d (.sl ((askC putS l[i].fName O (Q.take k)).map bH)))), (10, oi k)]) (fun _ => []) (fun k => k ≤ Q.length) (fun k => Q.length - k) 0 (fun _ => ?_) ?_ ?_ (fun k hk => ?_)
       ·simp only [go_sem]
       ·simp only [go_sem]; simp [askC]
       ·simp
       ·simp only [go_sem]
        refine aB ?_
        have hokA := b2O l (pot l names) l[i] (List.getElem_mem h3) (Q.take k) O hokI
        have hAl := Nat.le_trans (a7Z hokA) hB
        refine cnd rfl (fun h4 => ?_) (fun h4 => ?_)
        ·simp only [decide_eq_true_eq, Int.ofNat_lt] at h4
         have hin := b4w l[i].fName O Q k h4
         have hout := b2P l[i].fName O Q k h4
         generalize askC putS l[i].fName O (Q.take k) = A at *
         have q0 := @h3; have q1 := @h4; refine a8B (lL A Q[k] hAl) ?_
         refine cnd (b := hasS A Q[k]) rfl (fun hv => ?_) (fun hv => ?_)
         ·have hin := hin ((gI A Q[k]).1 hv)
          have q0 := @h3; have q1 := @h4; refine a8B (lI A l[i].fName hAl) ?_
          refine aD (k + 1) ?_ ?_ ?_
          ·simp only [go_sem, hin]; simp
          ·omega
          ·omega
         ·have hout := hout (fun hm => by rw [(gI A Q[k]).2 hm] at hv; cases hv)
          have q0 := @h3; have q1 := @h4; refine gT ?_
          refine aD (k + 1) ?_ ?_ ?_
          ·simp only [go_sem, hout]; simp
          ·omega
          ·omega
        ·simp only [decide_eq_false_iff_not] at h4
         have e : k = Q.length := by omega
         subst e
         rw [List.take_length] at *
         refine aB ?_
         refine aD (i + 1) ?_ ?_ ?_
         ·simp only [go_sem, ht]; simp
         ·omega
         ·omega
      ·simp only [decide_eq_false_iff_not] at h3
       have e : i = l.length := by omega
       subst e
       rw [List.take_length] at *
       refine aB ?_
       refine aD (r + 1) ?_ ?_ ?_
       ·simp only [go_sem]; simp [nO, gP]
       ·omega
       ·omega
    ·simp only [decide_eq_false_iff_not] at h2
     have e : r = l.length + 1 := by omega
     subst e
     refine aB ?_
     exact aA ⟨⟨_, rfl, by simp only [go_sem, tdS]⟩, trivial⟩
theorem a6X (l : List TDir) (p : TDir → Bool) (S : List ByteArray) (hS : ∀ d ∈ l, p d = true → d.fName ∈ S) : wsm wS ((l.filter p).map TDir.fName) + iJ wS (eD l) S ≤ dK l := by
 unfold dK
 induction l with
 | nil => simp [wsm, eD, iJ, dD]
 | cons d l ih =>
  have ih := ih fun d' hd' => hS d' (List.mem_cons_of_mem _ hd')
  have e : mG d = d.fName.size + gM d.fQuery := rfl
  have ee : wS d.fName = 1 + d.fName.size := rfl
  simp only [eD, List.map_cons, iJ, List.filter_cons, List.length_cons, dD] at ih ⊢
  cases hp : p d with
  | true =>
   have hm := hS d List.mem_cons_self hp
   simp only [hm, if_true, List.map_cons, wsm]; omega
  | false =>
   simp only [Bool.false_eq_true, if_false]
   split <;> omega
theorem a1G (a b : TFile) (l : List TDir) : pot l (qW a b l) ≤ dK l := by
 have hgen : ∀ p : TDir → Bool, pot l ((l.filter p).map TDir.fName) ≤ dK l := fun p => a6X l p _ fun d hd hp => List.mem_map.2 ⟨d, List.mem_filter.2 ⟨hd, hp⟩, rfl⟩
 unfold qW
 split
 ·exact hgen _
 ·have := hgen (fun _ => true)
  rw [List.filter_eq_self.2 (by simp)] at this
  exact this
theorem b5z (l : List TDir) (names : List ByteArray) : oV (tdS l names) ≤ pot l names := by
 have h := (vZ l names (l.length + 1)).2
 unfold tdS
 rw [← b1l]
 unfold pot at *
 omega
def vY (a b : TFile) (l : List TDir) : List ByteArray := tdS l (qW a b l)
theorem b4v (a b : TFile) (l : List TDir) : oV (vY a b l) ≤ dK l := Nat.le_trans (b5z l _) (a1G a b l)
theorem a6Y (l : List TDir) (a b : TFile) (h : dK l + (aW a + aW b) ≤ 4300000) : FnC Tryz.prog 9 [.o (.d (.sl (l.map bD))), dQ a, dQ b] (.o (.w 9 1 ((vY a b l).map bH))) := by
 have hp := a1G a b l
 refine ent Tryz.func9 rfl Tryz.call9 rfl (fun C => ?_); simp only [go_sem, st0, Tryz.ntmps9]
 refine b3D (tH l a b h) (a9j l (qW a b l) (by omega) (by omega)) ?_
 exact aA ⟨⟨_, rfl, by simp only [go_sem, vY]⟩, trivial⟩
theorem a6Z (l : List TDir) (a b : TFile) (h : dK l + (aW a + aW b) ≤ 4300000) : FnC Tryz.prog 13 [.o (.d (.sl (l.map bD))), dQ a, dQ b] (.o (.w 9 1 ((vY a b l).map bH))) := by
 have hp := a1G a b l
 refine ent Tryz.func13 rfl Tryz.call13 rfl (fun C => ?_); simp only [go_sem, st0, Tryz.ntmps13]
 refine b3D (tJ l a b h) (a9k l (qW a b l) (by omega) (by omega)) ?_
 exact aA ⟨⟨_, rfl, by simp only [go_sem, vY]⟩, trivial⟩
end Go.Proofs.YtolgdibgnndoaaaGreat
end
section
set_option maxRecDepth 100000
set_option maxHeartbeats 4000000
namespace Go.Proofs.YtolgdibgnndoaaaGreat
open Go Go.Sx Go.Sx.Clos
theorem b4t {x v : TValue} (h : eqV x v = true) : x = v := by
 unfold eqV at h
 simp only [Bool.and_eq_true, decide_eq_true_eq] at h
 cases x; cases v
 simp only at h
 simp [h.1, h.2.1, h.2.2]
theorem vX {n : ByteArray} : ∀ {l : List TAttr}, ¬ n ∈ attrNs l → dB n l = ⟨0, 0, ⟨#[]⟩⟩
 | [], _ => rfl
 | a :: l, h => by
  unfold dB
  simp only [attrNs, List.map_cons, List.mem_cons, not_or] at h
  rw [if_neg (fun e => h.1 e.symm)]
  exact vX h.2
theorem b1i {a b : TFile} {n : ByteArray} (h : hasS (chg a b) n = false) : dB n a.fAttrs = dB n b.fAttrs := by
 have hm : ¬ n ∈ chg a b := fun hm => by rw [(gI _ _).2 hm] at h; cases h
 unfold chg chL at hm
 rw [List.mem_filter, List.mem_append] at hm
 by_cases h1 : n ∈ attrNs a.fAttrs ∨ n ∈ attrNs b.fAttrs
 ·have h2 : ¬ qQ a b n = true := fun e => hm ⟨h1, e⟩
  unfold qQ at h2
  simp only [Bool.not_eq_true', Bool.not_eq_false] at h2
  exact b4t h2
 ·rw [not_or] at h1
  rw [vX h1.1, vX h1.2]
theorem a4a {q : List TNode} (hq : okQ q = true) {a b : TFile} {R R' : List TResult} (hid : a.fID = b.fID) (ha : ∀ n ∈ q, isA n = true → dB n.fName a.fAttrs = dB n.fName b.fAttrs) (hl : kL q = true → a.fLink = b.fLink) (hr : ∀ n ∈ q, isD n = true → bO n.fName R = bO n.fName R') :
    ∀ k i, mt q a R k i = mt q b R' k i
 | 0, _ => rfl
 | k + 1, i => by
  unfold mt
  cases hn : q[i]? with
  | none => rfl
  | some n =>
   have hm : n ∈ q := List.mem_of_getElem? hn
   have hok := yQ hq hn
   simp only
   by_cases o1 : n.fOp = 1
   ·simp (decide := true) only [o1, if_true]
   by_cases o2 : n.fOp = 2
   ·simp (decide := true) only [o2, if_true, if_false]; rw [ha n hm (by simp [isA, o2])]
   by_cases o3 : n.fOp = 3
   ·simp (decide := true) only [o3, if_true, if_false]; rw [ha n hm (by simp [isA, o3])]
   by_cases o4 : n.fOp = 4
   ·simp (decide := true) only [o4, if_true, if_false]; rw [ha n hm (by simp [isA, o4])]
   have h1 := a4a hq hid ha hl hr k n.fLeft.toNat
   have h2 := a4a hq hid ha hl hr k n.fRight.toNat
   by_cases o5 : n.fOp = 5
   ·simp (decide := true) only [o5, if_true, if_false]; rw [h1]
   by_cases o6 : n.fOp = 6
   ·simp (decide := true) only [o6, if_true, if_false]; rw [h1, h2]
   by_cases o7 : n.fOp = 7
   ·simp (decide := true) only [o7, if_true, if_false]; rw [h1, h2]
   by_cases o8 : n.fOp = 8
   ·simp (decide := true) only [o8, if_true, if_false]; rw [hr n hm (by simp [isD, o8]), hid]
   have o9 : n.fOp = 9 := by
    unfold dI at hok
    rw [if_neg o1, if_neg o2, if_neg o3, if_neg o4, if_neg o5, if_neg (fun h => h.elim o6 o7)] at hok
    by_cases h : n.fOp = 8 ∨ n.fOp = 9
    ·exact h.resolve_left o8
    ·rw [if_neg h] at hok; cases hok
   simp (decide := true) only [o9, if_true, if_false]
   rw [hr n hm (by simp [isD, o9]), hl (by unfold kL; rw [List.any_eq_true]; exact ⟨n, hm, by simp [o9]⟩)]
def a7W (p p' : TFile → Bool) : List TFile → List TFile → Prop
 | [], [] => True
 | f :: l, g :: m => (f.fID = g.fID ∧ p f = p' g) ∧ a7W p p' l m
 | _, _ => False
theorem a2T {p p' : TFile → Bool} : ∀ {l m : List TFile}, a7W p p' l m → iO (l.filter p) = iO (m.filter p')
 | [], [], _ => rfl
 | f :: l, g :: m, h => by
  have ih := a2T h.2
  simp only [List.filter_cons]
  rw [h.1.2]
  unfold iO at ih ⊢
  split
  ·simp only [List.map_cons, h.1.1, ih]
  ·exact ih
 | [], _ :: _, h => h.elim
 | _ :: _, [], h => h.elim
theorem a1E {p p' : TFile → Bool} : ∀ {l : List TFile}, (∀ f ∈ l, p f = p' f) → a7W p p' l l
 | [], _ => trivial
 | f :: l, h => ⟨⟨rfl, h f List.mem_cons_self⟩, a1E fun g hg => h g (List.mem_cons_of_mem _ hg)⟩
theorem a2U {p p' : TFile → Bool} : ∀ {l : List TFile} {i : Nat} (hi : i < l.length) {g : TFile}, (∀ f ∈ l, p f = p' f) → (l[i].fID = g.fID ∧ p l[i] = p' g) → a7W p p' l (l.set i g)
 | f :: l, 0, _, g, h, e => ⟨e, a1E fun x hx => h x (List.mem_cons_of_mem _ hx)⟩
 | f :: l, i + 1, hi, g, h, e => ⟨⟨rfl, h f List.mem_cons_self⟩, a2U (i := i) (by simpa using hi) (fun x hx => h x (List.mem_cons_of_mem _ hx)) (by simpa using e)⟩
structure SameOn (d : List TDir) (U : Nat → Prop) (R R' : List TResult) : Prop where
 n1 : R.map TResult.fName = d.map TDir.fName
 n2 : R'.map TResult.fName = d.map TDir.fName
 eq : ∀ i, i < d.length → U i → eQ R i = eQ R' i
theorem SameOn.trans {d : List TDir} {U : Nat → Prop} {R S T : List TResult} (h : SameOn d U R S) (k : SameOn d U S T) : SameOn d U R T := ⟨h.n1, k.n2, fun i hi hu => (h.eq i hi hu).trans (k.eq i hi hu)⟩
theorem SameOn.symm {d : List TDir} {U : Nat → Prop} {R S : List TResult} (h : SameOn d U R S) : SameOn d U S R := ⟨h.n2, h.n1, fun i hi hu => (h.eq i hi hu).symm⟩
def b3d (d : List TDir) (U : Nat → Prop) : Prop := ∀ i (hi : i < d.length), U i → ∀ n ∈ d[i].fQuery, isD n = true → ∀ p : Nat, placeD d n.fName = (p : Int) → U p
theorem SameOn.res {d : List TDir} {U : Nat → Prop} {R R' : List TResult} (h : SameOn d U R R') (hU : b3d d U) {i : Nat} (hi : i < d.length) (hu : U i) (n : TNode) (hn : n ∈ d[i].fQuery) (hD : isD n = true) : bO n.fName R = bO n.fName R' := by
 rcases resIDs_at h.n1 n.fName with ⟨h1, h2⟩ | ⟨p, h1, h2, h3⟩
 ·rcases resIDs_at h.n2 n.fName with ⟨_, k2⟩ | ⟨p', k1, _, _⟩
  ·rw [h2, k2]
  ·omega
 ·rcases resIDs_at h.n2 n.fName with ⟨k1, _⟩ | ⟨p', k1, k2, k3⟩
  ·omega
  ·have : p' = p := by omega
   subst this
   rw [h3, k3]
   exact h.eq p' h2 (hU i hi hu n hn hD p' h1)
def Sel (fs fs' : List TFile) (d : List TDir) (U : Nat → Prop) : Prop := ∀ i (hi : i < d.length), U i → ∀ R R', SameOn d U R R' → mY fs d[i].fQuery R = mY fs' d[i].fQuery R'
section
variable {fs fs' : List TFile} {d : List TDir} {L : List Nat} {ns : List ByteArray} {U : Nat → Prop}
theorem b2L (hS : Sel fs fs' d U) {k : Nat} {R R' : List TResult} (h : SameOn d U R R') {i : Nat} (hi : i < d.length) : SameOn d U (rP fs d i R d[i]) (rP fs' d i R' d[i]) := by
 have l1 : R.length = d.length := by simpa using congrArg List.length h.n1
 have l2 : R'.length = d.length := by simpa using congrArg List.length h.n2
 refine ⟨uG R i _ d h.n1 hi rfl, uG R' i _ d h.n2 hi rfl, fun j hj hu => ?_⟩
 unfold rP
 rw [jY R i j _ (by omega), jY R' i j _ (by omega)]
 split
 ·rename_i e; subst e; exact hS j hj hu R R' h
 ·exact h.eq j hj hu
theorem a5H (hS : Sel fs fs' d U) (k : Nat) {R R' : List TResult} (h : SameOn d U R R') : ∀ m, m ≤ d.length → SameOn d U (passT fs d L ns k m R) (passT fs' d L ns k m R')
 | 0, _ => h
 | m + 1, hm => by
  have ih := a5H hS k h m (by omega)
  rw [mQ fs d L ns k m R (by omega), mQ fs' d L ns k m R' (by omega)]
  split
  ·exact b2L (k := k) hS ih (by omega)
  ·exact ih
def itP (fs : List TFile) (d : List TDir) (L : List Nat) (ns : List ByteArray) (k : Nat) : Nat → List TResult → List TResult
 | 0, R => R
 | j + 1, R => itP fs d L ns k j (passT fs d L ns k d.length R)
theorem a6V (hS : Sel fs fs' d U) (k : Nat) : ∀ (j : Nat) {R R' : List TResult}, SameOn d U R R' → SameOn d U (itP fs d L ns k j R) (itP fs' d L ns k j R')
 | 0, R, R', h => h
 | j + 1, R, R', h => a6V hS k j (a5H hS k h d.length (Nat.le_refl _))
theorem a4b (k : Nat) : ∀ (i j : Nat) (R : List TResult), itP fs d L ns k (i + j) R = itP fs d L ns k j (itP fs d L ns k i R)
 | 0, j, R => by rw [Nat.zero_add]; rfl
 | i + 1, j, R => by rw [Nat.succ_add]; exact a4b k i j _
theorem a4c (k : Nat) {R : List TResult} (h : passT fs d L ns k d.length R = R) : ∀ j, itP fs d L ns k j R = R
 | 0 => rfl
 | j + 1 => by unfold itP; rw [h]; exact a4c k h j
theorem a1F (hv : ∀ i, (hi : i < d.length) → okQ d[i].fQuery = true) (hc : Clo d.length (EE d) L) {c k : Nat} : ∀ (F : Nat) (x : List TResult × Nat), Ev fs d L ns c k x.1 → d.length * c + 1 ≤ F + jC x.1 →
    ∃ j, (jQ fs d L ns k F x).1 = itP fs d L ns k j x.1 ∧ passT fs d L ns k d.length (jQ fs d L ns k F x).1 = (jQ fs d L ns k F x).1
 | 0, x, h, hF => by have := h.tot; omega
 | F + 1, x, h, hF => by
  have hp := mR hv hc d.length x.1 (Nat.le_refl _) h
  unfold jQ
  split
  ·rename_i g
   obtain ⟨j, e1, e2⟩ := a1F hv hc F (passT fs d L ns k d.length x.1, x.2 + 1) hp (by simp only; omega)
   exact ⟨j + 1, e1, e2⟩
  ·rename_i g
   rcases passT_cases hv hc d.length x.1 (Nat.le_refl _) h with e | e
   ·exact ⟨0, by simp only; rw [e]; rfl, by simp only; rw [e, e]⟩
   ·exact absurd e g
theorem b1j (hS : Sel fs fs' d U) (hv : ∀ i, (hi : i < d.length) → okQ d[i].fQuery = true) (hc : Clo d.length (EE d) L) {c c' k : Nat} {F F' : Nat} {x x' : List TResult × Nat} (h : Ev fs d L ns c k x.1) (h' : Ev fs' d L ns c' k x'.1) (hF : d.length * c + 1 ≤ F + jC x.1) (hF' : d.length * c' + 1 ≤ F' + jC x'.1) (hs : SameOn d U x.1 x'.1) : SameOn d U (jQ fs d L ns k F x).1 (jQ fs' d L ns k F' x').1 := by
 obtain ⟨j, e1, e2⟩ := a1F hv hc F x h hF
 obtain ⟨j', e1', e2'⟩ := a1F hv hc F' x' h' hF'
 rcases Nat.le_total j j' with hj | hj
 ·have h1 : (jQ fs d L ns k F x).1 = itP fs d L ns k j' x.1 := by
   obtain ⟨t, rfl⟩ := Nat.exists_eq_add_of_le hj
   rw [a4b, ← e1, a4c k e2]
  rw [h1, e1']
  exact a6V hS k j' hs
 ·have h1 : (jQ fs' d L ns k F' x').1 = itP fs' d L ns k j x'.1 := by
   obtain ⟨t, rfl⟩ := Nat.exists_eq_add_of_le hj
   rw [a4b, ← e1', a4c k e2']
  rw [h1, e1]
  exact a6V hS k j hs
theorem a7X (hS : Sel fs fs' d U) (hv : ∀ i, (hi : i < d.length) → okQ d[i].fQuery = true) (hc : Clo d.length (EE d) L) (r : List TResult) : ∀ k, SameOn d U (allE fs d L ns (fs.length + aY r) r k).1 (allE fs' d L ns (fs'.length + aY r) r k).1
 | 0 => ⟨(zD (fs := fs) d L ns r).nm, (zD (fs := fs') d L ns r).nm, fun i hi hu => rfl⟩
 | k + 1 => b1j hS hv hc (uF hv hc k) (uF hv hc k) (Nat.le_add_right _ _) (Nat.le_add_right _ _) (a7X hS hv hc r k)
end
theorem b4u {d : List TDir} {names : List ByteArray} {x : ByteArray} (h : x ∈ names) : x ∈ tdS d names := wB kK (eD d) (putL names) _ x ((iY _ _).2 h)
theorem a6W {d : List TDir} {names : List ByteArray} : Closed (eD d) (tdS d names) := by
 have h := uW kK (eD d) (putL names)
 rw [b1k] at h
 exact h
theorem b2M {s : TStore} {d : List TDir} {f : TFile} (hv : ∀ i, (hi : i < d.length) → okQ d[i].fQuery = true) (he : evB s d = true) (hr : kT s f = true) (nm : ByteArray) (hn : nm ∈ uD (vY (kS f.fID s.fFiles) f d) d) :
    bO nm (evX (qO s f) d [] (dirNs d)).1 = bO nm (evX s d [] (dirNs d)).1 := by
 unfold evB at he
 rw [Bool.and_eq_true] at he
 obtain ⟨hb, hs⟩ := he
 have hs' := b4h hr
 obtain ⟨_, hi, _⟩ := a2E.1 hr
 rcases ixF_cases f.fID s.fFiles with e | ⟨p, e, hp, hpid⟩
 ·omega
 have hf : kS f.fID s.fFiles = s.fFiles[p] := yU e hp
 have hfs : (qO s f).fFiles = s.fFiles.set p f := by unfold qO; rw [if_pos hr, e]; rfl
 rw [hf] at hn
 have hleast := (pM hb).2
 have e1 : evX s d [] (dirNs d) = allE s.fFiles d (resL d) (dirNs d) (s.fFiles.length + aY []) [] (xV d (resL d)) := by unfold evX; simp [hb, hs]
 have e2 : evX (qO s f) d [] (dirNs d) = allE (qO s f).fFiles d (resL d) (dirNs d) ((qO s f).fFiles.length + aY []) [] (xV d (resL d)) := by unfold evX; simp [hb, hs']
 let U : Nat → Prop := fun i => ∀ hi : i < d.length, ¬ d[i].fName ∈ vY s.fFiles[p] f d
 have hU : b3d d U := fun i hi hu n hn hD q hq hql hm => by
  apply hu hi
  obtain ⟨_, hname⟩ : ∃ hk : q < d.length, d[q].fName = n.fName := by
   unfold placeD at hq
   rcases idxP_spec (fun x : TDir => decide (x.fName = n.fName)) d 0 with ⟨h0, _⟩ | ⟨k0, h1, h2, h3, _⟩
   ·omega
   ·have : k0 = q := by omega
    subst this
    exact ⟨h2, of_decide_eq_true h3⟩
  rw [hname] at hm
  exact a6W _ (List.mem_map.2 ⟨d[i], List.getElem_mem hi, rfl⟩) ⟨n.fName, (iY _ _).2 (List.mem_map.2 ⟨n, List.mem_filter.2 ⟨hn, hD⟩, rfl⟩), hm⟩
 have hS : Sel s.fFiles (s.fFiles.set p f) d U := fun i hi hu R R' hRR => by
  have hq := hv i hi
  have hres := fun n hn hD => hRR.res hU hi hu n hn hD
  have hna : affB s.fFiles[p] f d[i] = false := by
   cases hab : affB s.fFiles[p] f d[i] with
   | false => rfl
   | true =>
    exfalso
    apply hu hi
    apply b4u
    unfold qW
    rw [if_pos hpid]
    exact List.mem_map.2 ⟨d[i], List.mem_filter.2 ⟨List.getElem_mem hi, hab⟩, rfl⟩
  unfold affB at hna
  rw [Bool.or_eq_false_iff, Bool.and_eq_false_iff] at hna
  refine a2T (a2U hp (fun g _ => ?_) ⟨hpid, ?_⟩)
  ·unfold pr
   rw [a4a hq (a := g) (b := g) rfl (fun _ _ _ => rfl) (fun _ => rfl) hres]
  ·unfold pr
   rw [a4a hq (a := s.fFiles[p]) (b := f) hpid (fun n hn hA => ?_) (fun hl => ?_) hres]
   ·apply b1i
    cases hh : hasS (chg s.fFiles[p] f) n.fName with
    | false => rfl
    | true =>
     have := hna.1
     unfold a7h at this
     rw [List.any_eq_false] at this
     exact absurd hh (this n.fName (List.mem_map.2 ⟨n, List.mem_filter.2 ⟨hn, hA⟩, rfl⟩))
   ·rcases hna.2 with h | h
    ·rw [hl] at h; cases h
    ·simpa using h
 have hall := a7X (L := resL d) (ns := dirNs d) hS hv hleast.clo [] (xV d (resL d))
 rw [e1, e2, hfs]
 unfold uD at hn
 rw [List.mem_filter] at hn
 rcases resIDs_at hall.n1 nm with ⟨h1, h2⟩ | ⟨q, h1, h2, h3⟩
 ·rcases resIDs_at hall.n2 nm with ⟨_, k2⟩ | ⟨q', k1, _, _⟩
  ·rw [h2, k2]
  ·omega
 ·rcases resIDs_at hall.n2 nm with ⟨k1, _⟩ | ⟨q', k1, k2, k3⟩
  ·omega
  ·have : q' = q := by omega
   subst this
   rw [h3, k3]
   refine (hall.eq q' h2 (fun _ hm => ?_)).symm
   have hname : d[q'].fName = nm := by
    unfold placeD at h1
    rcases idxP_spec (fun x : TDir => decide (x.fName = nm)) d 0 with ⟨h0, _⟩ | ⟨k0, g1, g2, g3, _⟩
    ·omega
    ·have : k0 = q' := by omega
     subst this
     exact of_decide_eq_true g3
   rw [hname] at hm
   have := hn.2
   rw [(gI _ _).2 hm] at this
   cases this
end Go.Proofs.YtolgdibgnndoaaaGreat
end
section
set_option maxRecDepth 100000
set_option maxHeartbeats 4000000
namespace Go.Proofs.YtolgdibgnndoaaaGreat
open Go Go.Sx Go.RowKit Go.Proofs
def b5A (a b : TEdit) : TEdit := if a.fOK then (if b.fOK then ⟨false, []⟩ else a) else (if b.fOK then b else ⟨false, []⟩)
def wt (q : List TNode) (f : TFile) (r : List TResult) : Nat → Nat → Bool → TEdit
 | 0, _, _ => ⟨false, []⟩
 | k + 1, i, b => match q[i]? with
  | none => ⟨false, []⟩
  | some n =>
   if mt q f r (k + 1) i = b then ⟨true, []⟩
   else if n.fOp = 3 then (if b then ⟨true, [⟨n.fName, n.fValue⟩]⟩ else ⟨false, []⟩)
   else if n.fOp = 2 then (if b then ⟨false, []⟩ else ⟨true, [⟨n.fName, ⟨0, 0, ⟨#[]⟩⟩⟩]⟩)
   else if n.fOp = 5 then wt q f r k n.fLeft.toNat (!b)
   else if n.fOp = 6 then (if b then b0H (wt q f r k n.fLeft.toNat b) (wt q f r k n.fRight.toNat b) else b5A (wt q f r k n.fLeft.toNat b) (wt q f r k n.fRight.toNat b))
   else if n.fOp = 7 then (if b then b5A (wt q f r k n.fLeft.toNat b) (wt q f r k n.fRight.toNat b) else b0H (wt q f r k n.fLeft.toNat b) (wt q f r k n.fRight.toNat b))
   else ⟨false, []⟩
def b6W (q : List TNode) (f : TFile) (r : List TResult) (b : Bool) : TEdit := if okQ q then wt q f r q.length (q.length - 1) b else ⟨false, []⟩
theorem b4y (l : List Int) (hl : l.length ≤ 9223372036854775807) : FnC Tryz.prog 7 [.o (.d (.sl (l.map kM)))] (ob (decide ((1048576 : Int) < (l.length : Int)))) := by
 refine ent Tryz.func7 rfl Tryz.call7 rfl (fun C => ?_); simp only [go_sem, st0, Tryz.ntmps7]
 refine aB ?_
 exact aA ⟨⟨_, rfl, by simp only [go_sem]⟩, trivial⟩
def amQ (x y : Int) : List TNode := [⟨3, 0, 0, ⟨#[97]⟩, ⟨1, x, ⟨#[]⟩⟩⟩, ⟨3, 0, 0, ⟨#[98]⟩, ⟨1, y, ⟨#[]⟩⟩⟩, ⟨7, 0, 1, ⟨#[]⟩, ⟨0, 0, ⟨#[]⟩⟩⟩]
def amL (x : Int) : List TNode := [⟨4, 0, 0, ⟨#[97]⟩, ⟨1, x, ⟨#[]⟩⟩⟩]
def amF : TFile := ⟨1, 0, false, 0, []⟩
end Go.Proofs.YtolgdibgnndoaaaGreat
end
