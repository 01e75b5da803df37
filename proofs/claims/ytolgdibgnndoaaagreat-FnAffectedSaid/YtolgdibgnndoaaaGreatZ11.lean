/- Joined texts. -/
import Derived.Test.YtolgdibgnndoaaaGreatZ10
import Derived.Test.YtolgdibgnndoaaaGreatZ08
set_option linter.all false
section
namespace Go.Proofs.YtolgdibgnndoaaaGreat
open Go Go.Sx Go.RowKit Go.Proofs
def ixF (id : Int) (l : List TFile) : Int := eU (fun f => decide (f.fID = id)) l 0
theorem ixF_cases (id : Int) (l : List TFile) : (ixF id l = -1) ∨ ∃ p : Nat, ixF id l = p ∧ ∃ h : p < l.length, l[p].fID = id := by
 rcases idxP_spec (fun f : TFile => decide (f.fID = id)) l 0 with h | ⟨k, e1, e2, e5, e6⟩
 ·exact .inl h.1
 ·exact .inr ⟨k, by unfold ixF; rw [e1]; simp, e2, by simpa using e5⟩
def zF : TFile := ⟨0, 0, false, 0, []⟩
def kS (id : Int) (l : List TFile) : TFile := if 0 ≤ ixF id l then l.getD (ixF id l).toNat zF else zF
theorem a5l {id : Int} {l : List TFile} (h : ixF id l = -1) : kS id l = zF := by unfold kS; rw [h]; rfl
theorem yU {id : Int} {l : List TFile} {p : Nat} (h : ixF id l = p) (hp : p < l.length) : kS id l = l[p] := by unfold kS; rw [h, if_pos (by omega)]; simp [hp]
theorem b2x (id : Int) (l : List TFile) : aW (kS id l) ≤ iE l := by
 rcases ixF_cases id l with h | ⟨p, h, hp, _⟩
 ·rw [a5l h]; simp [zF, aW, eB, dD]
 ·rw [yU h hp]; have := eY aW l hp; unfold iE; omega
def rC {α : Type} (p : Nat) (l : List α) : List α := l.take p ++ l.drop (p + 1)
theorem a7L {α : Type} {p : Nat} {l : List α} (h : p < l.length) : (rC p l).length = l.length - 1 := by simp [rC]; omega
theorem a6I {α : Type} {p k : Nat} {l : List α} (h : p < l.length) (hk : k < (rC p l).length) (e : k < p) : (rC p l)[k] = l[k] := by
 simp only [rC]
 rw [List.getElem_append_left (by simp; omega), List.getElem_take]
theorem b0Q {α : Type} {p k : Nat} {l : List α} (h : p < l.length) (hk : k < (rC p l).length) (e : ¬ k < p) : (rC p l)[k] = l[k + 1]'(by rw [a7L h] at hk; omega) := by
 simp only [rC]
 rw [List.getElem_append_right (by simp; omega), List.getElem_drop]
 congr 1
 simp; omega
theorem b2X {α : Type} (f : α → Nat) (y : α) : ∀ (p : Nat) (l : List α), dD f (l.set p y) ≤ dD f l + f y
 | _, [] => by simp [dD]
 | 0, x :: l => by simp only [List.set_cons_zero, dD]; omega
 | p + 1, x :: l => by
  have ih := b2X f y p l
  simp only [List.set_cons_succ, dD]
  omega
theorem qN {s : TStore} (h : cK s = true) (j : Nat) (h0 : 0 < j) (hj : j < s.fFiles.length) : s.fFiles[j - 1].fID < s.fFiles[j].fID := by
 have q := ((dV hj).1 ((eF.1 h).1 j hj)).2.2
 rw [oZ _ _ h0 hj] at q
 simp only [Bool.not_eq_true', decide_eq_false_iff_not] at q
 omega
theorem a3N (l : List TFile) (k : Nat) (hk : k < l.length) (h : ∀ h0 : 0 < k, (l[k - 1]'(by omega)).fID < l[k].fID) : a5k l k = true := by
 by_cases h0 : 0 < k
 ·rw [oZ _ _ h0 hk]
  have := h h0
  simp only [Bool.not_eq_true', decide_eq_false_iff_not]
  omega
 ·exact a3M _ _ h0
def zW (s : TStore) (id : Int) : Bool := cK s && decide (0 ≤ ixF id s.fFiles)
def delS (s : TStore) (id : Int) : TStore := if zW s id then ⟨s.fSchema, rC (ixF id s.fFiles).toNat s.fFiles, s.fNextID⟩ else s
theorem b4g {s : TStore} {id : Int} (h : zW s id = true) : cK (delS s id) = true := by
 have h' := h
 unfold zW at h'
 rw [Bool.and_eq_true, decide_eq_true_eq] at h'
 obtain ⟨hs, hi⟩ := h'
 obtain ⟨h1, h2, h3, h4, h5⟩ := eF.1 hs
 rcases ixF_cases id s.fFiles with e | ⟨p, e, hp, _⟩
 ·omega
 unfold delS
 rw [if_pos h, e, Int.toNat_natCast]
 have hl := a7L hp
 refine eF.2 ⟨fun k hk => ?_, h2, by simp only [hl]; omega, h4, h5⟩
 rw [dV hk]
 simp only at hk ⊢
 by_cases ek : k < p
 ·have e1 := a6I hp hk ek
  obtain ⟨q1, q2, q3⟩ := (dV (by omega)).1 (h1 k (by omega))
  refine ⟨by rw [e1]; exact q1, by rw [e1]; exact q2, a3N _ _ hk fun h0 => ?_⟩
  rw [e1, a6I hp (by omega) (by omega)]
  exact qN hs k h0 (by omega)
 ·have e1 := b0Q hp hk ek
  have hk1 : k + 1 < s.fFiles.length := by rw [hl] at hk; omega
  obtain ⟨q1, q2, q3⟩ := (dV hk1).1 (h1 (k + 1) hk1)
  refine ⟨by rw [e1]; exact q1, by rw [e1]; exact q2, a3N _ _ hk fun h0 => ?_⟩
  have u1 := qN hs (k + 1) (by omega) hk1
  simp only [Nat.add_sub_cancel] at u1
  by_cases ep : k - 1 < p
  ·rw [e1, a6I hp (by omega) ep]
   have u2 := qN hs k h0 (by omega)
   omega
  ·rw [e1, b0Q hp (by omega) ep]
   have ee : k - 1 + 1 = k := by omega
   simp only [ee]
   exact u1
def kT (s : TStore) (f : TFile) : Bool := cK s && (decide (0 ≤ ixF f.fID s.fFiles) && fI s.fSchema f)
def qO (s : TStore) (f : TFile) : TStore := if kT s f then ⟨s.fSchema, s.fFiles.set (ixF f.fID s.fFiles).toNat f, s.fNextID⟩ else s
theorem a2E {s : TStore} {f : TFile} : kT s f = true ↔ cK s = true ∧ 0 ≤ ixF f.fID s.fFiles ∧ fI s.fSchema f = true := by
 unfold kT; simp only [Bool.and_eq_true, decide_eq_true_eq]
theorem b4h {s : TStore} {f : TFile} (h : kT s f = true) : cK (qO s f) = true := by
 obtain ⟨hs, hi, hf⟩ := a2E.1 h
 obtain ⟨h1, h2, h3, h4, h5⟩ := eF.1 hs
 rcases ixF_cases f.fID s.fFiles with e | ⟨p, e, hp, hid⟩
 ·omega
 unfold qO
 rw [if_pos h, e, Int.toNat_natCast]
 have key : ∀ j (hj : j < (s.fFiles.set p f).length), (s.fFiles.set p f)[j].fID = (s.fFiles[j]'(by simpa using hj)).fID := by
  intro j hj
  rw [List.getElem_set]
  split
  ·rename_i ej; subst ej; exact hid.symm
  ·rfl
 refine eF.2 ⟨fun k hk => ?_, h2, by simpa using h3, h4, h5⟩
 rw [dV hk]
 simp only at hk ⊢
 have hk' : k < s.fFiles.length := by simpa using hk
 obtain ⟨q1, q2, q3⟩ := (dV hk').1 (h1 k hk')
 refine ⟨?_, by rw [key k hk]; exact q2, a3N _ _ hk fun h0 => ?_⟩
 ·rw [List.getElem_set]
  split
  ·exact hf
  ·exact q1
 ·rw [key k hk, key (k - 1) (by omega)]
  exact qN hs k h0 hk'
theorem b4i (s : TStore) (f : TFile) : bW (qO s f) ≤ bW s + aW f := by
 unfold qO
 split
 ·have h := b2X aW f (ixF f.fID s.fFiles).toNat s.fFiles
  unfold bW iE; simp only [List.length_set]; omega
 ·omega
end Go.Proofs.YtolgdibgnndoaaaGreat
end
section
set_option maxRecDepth 100000
set_option maxHeartbeats 4000000
namespace Go.Proofs.YtolgdibgnndoaaaGreat
open Go Go.Sx Go.RowKit Go.Proofs
theorem nL (s : TStore) (id : Int) (hl : s.fFiles.length ≤ 4300000) : FnC Tryz.prog 75 [gY s, oi id] (oi (ixF id s.fFiles)) := by
 refine ent Tryz.func75 rfl Tryz.call75 rfl (fun C => ?_); simp only [go_sem, st0, Tryz.ntmps75]
 refine aB ?_
 refine bB (α := Nat) (fun k => [(5, oi k)]) (fun _ => []) (fun k => k ≤ s.fFiles.length ∧ ixF id s.fFiles = eU (fun f => decide (f.fID = id)) (s.fFiles.drop k) k) (fun k => s.fFiles.length - k) 0 (fun _ => ?_) ?_ ?_ (fun k hk => ?_)
 ·simp only [go_sem]
 ·simp only [go_sem]; simp
 ·simp [ixF]
 ·obtain ⟨hk, hq⟩ := hk
  simp only [go_sem]
  refine aB ?_
  refine cnd rfl (fun h => ?_) (fun h => ?_)
  ·simp only [decide_eq_true_eq, Int.ofNat_lt] at h
   have hd := List.drop_eq_getElem_cons h
   rw [hd, eU] at hq
   by_cases h2 : s.fFiles[k].fID = id
   ·rw [if_pos (by simp [h2])] at hq
    have q0 := @h; have q1 := @h2; have q2 := @decide_true; refine mD ?_
    exact aA ⟨⟨_, rfl, by simp only [go_sem, hq]⟩, trivial⟩
   ·rw [if_neg (by simp [h2])] at hq
    have q0 := @h; have q1 := @h2; have q2 := @decide_false; refine mD ?_
    refine aD (k + 1) ?_ ?_ ?_
    ·simp only [go_sem]; simp
    ·rw [hq]; exact ⟨h, by simp⟩
    ·omega
  ·simp only [decide_eq_false_iff_not] at h
   have e : k = s.fFiles.length := by omega
   subst e
   simp only [List.drop_length, eU] at hq
   refine aB ?_
   exact aA ⟨⟨_, rfl, by simp only [go_sem, hq]⟩, trivial⟩
theorem a5m (s : TStore) (id : Int) (h : bW s ≤ 4300000) : FnC Tryz.prog 73 [gY s, oi id] (.t [(true, (qZ (kS id s.fFiles)).cells), (false, [.d (bv (decide (0 ≤ ixF id s.fFiles)))])]) := by
 have hl : s.fFiles.length ≤ 4300000 := by unfold bW iE at h; omega
 refine ent Tryz.func73 rfl Tryz.call73 rfl (fun C => ?_); simp only [go_sem, st0, Tryz.ntmps73]
 rcases ixF_cases id s.fFiles with e | ⟨p, e, hp, _⟩
 ·have e1 := a5l e
  have hz : ¬ (0 : Int) ≤ -1 := by omega
  have hy : (-1 : Int) < 0 := by omega
  have hk := nL s id hl
  rw [e] at hk
  have q0 := @hy; have q1 := @decide_true; refine a8B hk ?_
  exact aA ⟨⟨_, rfl, by simp only [go_sem, e, e1, hz, decide_false, zF, List.map_nil]; try simp⟩, by simp [dF]⟩
 ·have e1 := yU e hp
  have hz : (0 : Int) ≤ (p : Int) := by omega
  have hy : ¬ (p : Int) < 0 := by omega
  have hw := eY aW s.fFiles hp
  have hx : s.fFiles[p].fAttrs.length ≤ 4300000 := by
   have e : s.fFiles[p].fAttrs.length ≤ aW s.fFiles[p] := by unfold aW eB; omega
   unfold bW iE at h; omega
  have hk := nL s id hl
  rw [e] at hk
  have q0 := @hy; have q1 := @hp; have q2 := @decide_false; have q3 := @Int.toNat_natCast; refine b0e hk (mK s.fFiles[p] hx) ?_
  exact aA ⟨⟨_, rfl, by simp only [go_sem, e, e1, hz, decide_true]; try simp⟩, by simp [dF]⟩
theorem a1m (s : TStore) (f : TFile) (hs : bW s ≤ 4300000) (hf : aW f ≤ 4300000) : FnC Tryz.prog 20 [gY s, dQ f] (.t [(true, (a3E (qO s f)).cells), (false, [.d (bv (kT s f))])]) := by
 have h1 : dH s.fSchema ≤ 4300000 := by unfold bW at hs; omega
 have h2 : s.fFiles.length ≤ 4300000 := by unfold bW iE at hs; omega
 have h3 : f.fAttrs.length ≤ 4300000 := by unfold aW eB at hf; omega
 have hk := nL s f.fID h2
 refine ent Tryz.func20 rfl Tryz.call20 rfl (fun C => ?_); simp only [go_sem, st0, Tryz.ntmps20]
 cases hv : cK s
 ·have e : kT s f = false := by simp [kT, hv]
  have qH := @hv; repeat' (with_reducible first | refine nY ?_ | (refine mX ?_; try simp only [go_sem, qH]) | refine kD ?_ | refine rD ?_ | refine cP (iW s hs) ?_ | refine vR hk ?_ | refine vD hk ?_ | refine vR (bF s hs) ?_ | refine vD (bF s hs) ?_ | refine aO ?_ | fail)
  exact aA ⟨⟨_, rfl, by simp only [go_sem, qO, e]; try simp⟩, by simp [dF]⟩
 rcases ixF_cases f.fID s.fFiles with ei | ⟨p, ei, hp, _⟩
 ·have e : kT s f = false := by simp [kT, ei]
  have hy : (-1 : Int) < 0 := by omega
  rw [ei] at hk
  have qH := aI @hv (aI @hy @decide_true); repeat' (with_reducible first | refine nY ?_ | (refine mX ?_; try simp only [go_sem, qH]) | refine kD ?_ | refine rD ?_ | refine cP (iW s hs) ?_ | refine vR hk ?_ | refine vD hk ?_ | refine vR (bF s hs) ?_ | refine vD (bF s hs) ?_ | refine aO ?_ | fail)
  exact aA ⟨⟨_, rfl, by simp only [go_sem, qO, e]; try simp⟩, by simp [dF]⟩
 have hy : ¬ (p : Int) < 0 := by omega
 rw [ei] at hk
 cases ho : fI s.fSchema f
 ·have e : kT s f = false := by simp [kT, ho]
  have qH := aI @hv (aI @hy (aI @ho @decide_false)); repeat' (with_reducible first | refine nY ?_ | (refine mX ?_; try simp only [go_sem, qH]) | refine kD ?_ | refine rD ?_ | refine cP (iW s hs) ?_ | refine vR hk ?_ | refine vD hk ?_ | refine vR (bF s hs) ?_ | refine vD (bF s hs) ?_ | refine vR (dR s.fSchema f h1 hf) ?_ | refine vD (dR s.fSchema f h1 hf) ?_ | refine aO ?_ | fail)
  exact aA ⟨⟨_, rfl, by simp only [go_sem, qO, e]; try simp⟩, by simp [dF]⟩
 ·have e : kT s f = true := by simp [kT, hv, ei, ho]
  have qH := aI @hv (aI @hy (aI @ho (aI @hp (aI @decide_false (aI @Int.toNat_natCast @a8z))))); repeat' (with_reducible first | refine nY ?_ | (refine mX ?_; try simp only [go_sem, qH]) | refine kD ?_ | (apply rE [4,6] [] [0,1,2,3] [0,1,2,3] ((.c 4 [5] [0,1,2,5] (.c 6 [] [] .n .n) .n)) (by simp only [go_sem]; rfl) (by simp only [go_sem]; rfl) (by simp only [go_sem]; rfl) (by decide +kernel); (focus simp only [go_sem]; done)) | exact aQ | refine aK (uX ?_) ?_ | refine aL (aX ?_) ?_ | refine aM (aX ?_) ?_ | exact bE | exact oH | exact uB | refine rD ?_ | refine cP (iW s hs) ?_ | refine vR hk ?_ | refine vG hk ?_ | refine vR (bF s hs) ?_ | refine vG (bF s hs) ?_ | refine vR (dR s.fSchema f h1 hf) ?_ | refine vG (dR s.fSchema f h1 hf) ?_ | refine cP (mK f h3) ?_ | refine aO ?_ | fail)
  exact aA ⟨⟨_, rfl, by simp only [go_sem, qO, e, ei, Int.toNat_natCast, if_true, List.map_set]; try simp [dN]⟩, by simp [dF]⟩
theorem a7M (l : List TFile) : ∀ r ∈ l.map dN, r.length = 5 := by intro r hr; obtain ⟨x, _, rfl⟩ := List.mem_map.1 hr; rfl
@[go_sem] def a1n (x : TStore) : SV := .g [.d (.sl (x.fSchema.map dE)), .m 27 5 (x.fFiles.map dN), .d (iv x.fNextID)]
theorem a1o (s : TStore) (id : Int) (hs : bW s ≤ 4300000) (hd : zW s id = true) : FnC Tryz.prog 146 [gY s, oi id] (.t [(true, (a1n (delS s id)).cells), (false, [.d (bv true)])]) := by
 have h2 : s.fFiles.length ≤ 4300000 := by unfold bW iE at hs; omega
 have hk := nL s id h2
 have hcp : FnC Tryz.prog 74 [gY s] (gY s) := (iW s hs).pu (by simp only [go_sem, and_self])
 have hv : cK s = true := by unfold zW at hd; rw [Bool.and_eq_true] at hd; exact hd.1
 rcases ixF_cases id s.fFiles with ei | ⟨p, ei, hp, _⟩
 ·unfold zW at hd
  rw [ei] at hd
  simp at hd
 ·refine ent Tryz.func146 rfl Tryz.call146 rfl (fun C => ?_); simp only [go_sem, st0, Tryz.ntmps146]
  have hy : ¬ (p : Int) < 0 := by omega
  rw [ei] at hk
  have hpn : ((p : Int) + 1).toNat = p + 1 := by omega
  have hT : List.take s.fFiles.length (List.map dN s.fFiles) = List.map dN s.fFiles := List.take_of_length_le (by simp)
  have hTk : List.take p (List.map dN s.fFiles) = (s.fFiles.take p).map dN := List.map_take.symm
  have hDp : List.drop (p + 1) (List.map dN s.fFiles) = (s.fFiles.drop (p + 1)).map dN := List.map_drop.symm
  have qH := aI @hv (aI @hy (aI @hp (aI @hpn (aI @hT (aI @hTk (aI @hDp (aI @xB (aI @xC (aI @a0Y (aI @decide_false (aI @Int.toNat_natCast @a8z))))))))))); repeat' (with_reducible first | refine nY ?_ | (refine mX ?_; try simp only [go_sem, qH]) | refine kD ?_ | (apply rE [0,5,11,13] [] [1,2,3,4,6,7,8,9,10] [1,2,3,4,6,7,8,9,10] ((.c 0 [] [1,2,3,4,6,7,8,9,10] (.c 5 [] [6,7,8,9,10] (.c 11 [12] [12] (.c 13 [] [] .n .n) .n) .n) .n)) (by simp only [go_sem]; rfl) (by simp only [go_sem]; rfl) (by simp only [go_sem]; rfl) (by decide +kernel); (focus simp only [go_sem]; done)) | exact aQ | refine aK (uX ?_) ?_ | refine aL (aX ?_) ?_ | refine aM (aX ?_) ?_ | exact bE | exact oH | (refine uA ?_; simp only [go_sem, qH]; (repeat' first | omega | exact a7M _ | refine And.intro ?_ ?_); done) | refine rD ?_ | refine And.intro (a7M _) ?_ | refine cP hcp ?_ | refine cP hk ?_ | refine cP (bF s hs) ?_ | refine aO ?_ | fail)
  exact aA ⟨⟨_, rfl, by simp only [go_sem, delS, hd, ei, Int.toNat_natCast, if_true, rC, List.map_append]; try simp⟩, by simp [dF]⟩
theorem zT : FnC Tryz.prog 144 [] (.o (.w 187 2 (usual.map dE))) := by
 refine ent Tryz.func144 rfl Tryz.call144 rfl (fun C => ?_); simp only [go_sem, st0, Tryz.ntmps144]
 refine aB ?_
 exact aA ⟨⟨_, rfl, by simp only [go_sem, usual, List.map_cons, List.map_nil]⟩, trivial⟩
theorem a4R (s : List TField) (hs : s.length ≤ 1048576) : FnC Tryz.prog 143 [.o (.d (.sl (s.map dE)))] (a3E ⟨s, [], 1⟩) := by
 have hl1 : s.length ≤ 140737488355328 := by omega
 have hl2 : s.length * 24 ≤ 140737488355328 := by omega
 refine ent Tryz.func143 rfl Tryz.call143 rfl (fun C => ?_); simp only [go_sem, st0, Tryz.ntmps143]
 have q0 := @hl1; have q1 := @hl2; refine gT ?_
 exact aA ⟨⟨_, rfl, by simp only [go_sem, List.map_nil]⟩, trivial⟩
structure storeD (k : Nat) (s : TStore) : Prop where
 sch : s.fSchema = usual
 ok : cK s = true
 nx : s.fNextID ≤ 1 + k
 ln : s.fFiles.length ≤ k
 fl : ∀ f ∈ s.fFiles, ∃ id, fileD id f
theorem b0m : okSchema usual = true := by decide +kernel
theorem b0n {id : Int} {f : TFile} (h : fileD id f) (k : Int) (hk : 1 ≤ k ∧ k ≤ 60) : fI usual { f with fID := k } = true := by
 obtain ⟨a, b, n, t, e, h1, h2, h3, h4⟩ := h.at_
 have h0 := b3I h1 h2 h3 h4
 unfold fI
 simp only [e, h0, b0m, Bool.true_and, Bool.and_true, inB, Bool.and_eq_true, decide_eq_true_eq]
 exact ⟨hk, h.ow, h.lk⟩
theorem a6A : storeD 0 ⟨usual, [], 1⟩ := ⟨rfl, by decide +kernel, by simp, by simp, fun f hf => by simp at hf⟩
theorem a1b {k : Nat} {s : TStore} {id : Int} {f : TFile} (h : storeD k s) (hf : fileD id f) (hk : k ≤ 40) (hl : s.fFiles.length < 12) : kJ s f = true ∧ storeD (k + 1) (creS s f) ∧ (creS s f).fFiles.length = s.fFiles.length + 1 := by
 have hb := eF.1 h.ok
 have h1 := h.nx
 have hok : kJ s f = true := a2D.2 ⟨h.ok, hl, by rw [h.sch]; exact b0n hf s.fNextID (by omega)⟩
 have hs := b4f hok
 refine ⟨hok, ⟨?_, hs, ?_, ?_, ?_⟩, ?_⟩
 ·unfold creS; rw [if_pos hok]; exact h.sch
 ·unfold creS; rw [if_pos hok]; simp only; omega
 ·unfold creS; rw [if_pos hok]; have := h.ln; simp; omega
 ·unfold creS; rw [if_pos hok]
  intro x hx
  rcases List.mem_append.1 hx with hx | hx
  ·exact h.fl x hx
  ·simp only [List.mem_singleton] at hx
   subst hx
   exact ⟨s.fNextID, rfl, hf.ow, hf.lk, hf.at_⟩
 ·unfold creS; rw [if_pos hok]; simp
theorem xG {α : Type} (w : α → Nat) (c : Nat) : ∀ (l : List α), (∀ x ∈ l, w x ≤ c) → dD w l ≤ l.length * c
 | [], _ => by simp [dD]
 | x :: l, h => by
  have h1 := h x List.mem_cons_self
  have h2 := xG w c l fun y hy => h y (List.mem_cons_of_mem _ hy)
  simp only [dD, List.length_cons, Nat.add_mul]
  omega
theorem sF {k : Nat} {s : TStore} (h : storeD k s) : bW s ≤ 600 := by
 have hl : s.fFiles.length ≤ 12 := (eF.1 h.ok).2.2.1
 have h1 := xG aW 40 s.fFiles fun f hf => by obtain ⟨id, hd⟩ := h.fl f hf; exact (tV hd).1
 have h2 : dH usual = 8 := by decide +kernel
 unfold bW iE
 rw [h.sch, h2]
 omega
theorem a3A : FnC Tryz.prog 143 [.o (.d (.sl (usual.map dE)))] (a1n ⟨usual, [], 1⟩) :=
 (a4R usual (by decide)).re [0] rfl rfl (by simp only [go_sem, and_self]) (by simp only [go_sem]; try simp) trivial
theorem sG (s : TStore) (f : TFile) (hs : bW s ≤ 4300000) (hf : aW f ≤ 4300000) : FnC Tryz.prog 145 [gY s, dQ f] (.t [(true, (a1n (creS s f)).cells), (false, [.d (iv (a8V s f))]), (false, [.d (bv (kJ s f))])]) :=
 (a1T s f hs hf).re [0] rfl rfl (by simp only [go_sem, and_self]) (by simp only [go_sem]; try simp) rfl
theorem b2e {k : Nat} {s : TStore} (h : storeD k s) (h1 : 1 < s.fFiles.length) : zW s s.fFiles[1].fID = true := by
 unfold zW
 rw [h.ok, Bool.true_and, decide_eq_true_eq]
 rcases idxP_spec (fun f : TFile => decide (f.fID = s.fFiles[1].fID)) s.fFiles 0 with ⟨_, e⟩ | ⟨k0, e, _⟩
 ·have := e s.fFiles[1] (List.getElem_mem h1)
  simp at this
 ·unfold ixF; rw [e]; omega
theorem a6B {k : Nat} {s : TStore} (id : Int) (h : storeD k s) : storeD k (delS s id) := by
 unfold delS
 split
 ·rename_i hd
  have h1 := b4g hd
  unfold delS at h1
  rw [if_pos hd] at h1
  refine ⟨h.sch, h1, h.nx, ?_, fun f hf => ?_⟩
  ·have h2 := h.ln
   simp only [rC, List.length_append, List.length_take, List.length_drop]
   omega
  ·simp only [rC, List.mem_append] at hf
   rcases hf with hf | hf
   ·exact h.fl f (List.mem_of_mem_take hf)
   ·exact h.fl f (List.mem_of_mem_drop hf)
 ·exact h
theorem a2u {k m : Nat} {s : TStore} (h : storeD k s) (hk : k ≤ m) : storeD m s := ⟨h.sch, h.ok, by have := h.nx; omega, by have := h.ln; omega, h.fl⟩
theorem nG {l : List Int} (hl : fA l) : Drw l 81 [] (fun s : TStore => storeD 7 s) (fun s => a1n s) := by
 have hu := a3A
 have h0 : FnC Tryz.prog 144 [] (.o (.d (.sl (usual.map dE)))) := zT.pu (by simp only [go_sem, and_self])
 intro i h hi hh; refine kN Tryz.func81 rfl Tryz.call81 rfl (fun C b => ?_); simp only [go_sem, Tryz.ntmps81]
 refine b3D h0 hu ?_
 refine bB (α := Nat × TStore × Nat × Int) (fun x => [(4, oi x.1), (6, .o .u)]) (fun x => [(0, .pin b 158 [.sl (l.map kM), iv x.2.2.1, iv x.2.2.2]), (3, .box 39 [.d (.sl (x.2.1.fSchema.map dE)), .s 2, .d (iv x.2.1.fNextID)]), (2, .row 27 5 (x.2.1.fFiles.map dN) false)]) (fun x => (x.1 ≤ 7 ∧ storeD x.1 x.2.1) ∧ (x.2.2.1 ≤ l.length ∧ inR .i64 x.2.2.2)) (fun x => 8 - x.1) (0, ⟨usual, [], 1⟩, i, h) (fun _ => ?_) ?_ ?_ (fun x hx => ?_)
 ·simp only [go_sem]
 ·simp only [go_sem]; simp
 ·exact ⟨⟨Nat.zero_le _, a6A⟩, hi, hh⟩
 ·clear hi hh
  obtain ⟨k, s, i, h⟩ := x
  obtain ⟨⟨k7, hs⟩, hi, hh⟩ := hx
  simp only at k7 hs hi hh
  have hlen := hs.ln
  have hw := sF hs
  simp only [go_sem]
  refine aB ?_
  first | (refine aJ (aC hl 7 (by decide) (by decide) i h hi hh) ⟨rfl, rfl⟩ ?_ rfl ?_; (focus first | rfl | (simp only [go_sem]; done))) | (refine hZ (aC hl 7 (by decide) (by decide) i h hi hh) ⟨rfl, rfl⟩ ?_ rfl ?_; (focus first | rfl | (simp only [go_sem]; done)))
  clear hi hh; rintro ⟨x, i, h⟩ ⟨hx, hi, hh⟩; simp only at hx hi hh; simp only [go_sem]
  refine aB ?_
  refine cnd rfl (fun hlt => ?_) (fun hlt => ?_)
  ·simp only [decide_eq_true_eq] at hlt
   have qH := trivial; repeat' (with_reducible first | refine nY ?_ | (refine mX ?_; try simp only [go_sem]) | refine kD ?_ | (apply rF [2,3,8] [] [0,1] [0,1] ((.c 2 [] [0] (.c 3 [4,5,6,7] [4,5,6,7] (.c 8 [] [6,7] .n .n) .n) .n)) (by simp only [go_sem]; rfl) (by simp only [go_sem]; rfl) (by simp only [go_sem]; rfl) (by decide +kernel); (focus simp only [go_sem]; done)) | exact aQ | refine aK (uX ?_) ?_ | refine aL (aX ?_) ?_ | refine aM (aX ?_) ?_ | exact bE | exact oH | (refine uA ?_; simp only [go_sem]; (repeat' first | omega | refine And.intro ?_ ?_); done) | refine rD ?_ | refine aO ?_ | fail)
   first | (refine aJ (fU hl 1 i h hi hh) ⟨rfl, rfl⟩ ?_ rfl ?_; (focus first | rfl | (simp only [go_sem]; done))) | (refine hZ (fU hl 1 i h hi hh) ⟨rfl, rfl⟩ ?_ rfl ?_; (focus first | rfl | (simp only [go_sem]; done)))
   clear hi hh; rintro ⟨f, i, h⟩ ⟨hf, hi, hh⟩; simp only at hf hi hh; simp only [go_sem]
   have hfw := (tV hf).1
   obtain ⟨hc1, hc2, hc3⟩ := a1b hs hf (by omega) (by omega)
   have hcr := sG s f (by omega) (by omega)
   rw [hc1] at hcr
   generalize creS s f = s2 at *
   have qH := trivial; repeat' (with_reducible first | refine nY ?_ | (refine mX ?_; try simp only [go_sem]) | refine kD ?_ | exact aQ | refine aK (uX ?_) ?_ | refine aL (aX ?_) ?_ | refine aM (aX ?_) ?_ | (refine uA ?_; simp only [go_sem]; (repeat' first | omega | refine And.intro ?_ ?_); done) | refine rD ?_ | refine cP hcr ?_ | refine aO ?_ | fail)
   refine a3b [(2, 5)] (k + 1, s2, i, h) (by simp only [go_sem]; rfl) ?_ ?_ ?_
   ·simp only [go_sem]; simp
   ·exact ⟨⟨by simp only; omega, hc2⟩, hi, hh⟩
   ·simp only; omega
  ·clear hlt
   have hs7 := a2u hs k7
   by_cases g2 : 2 < s.fFiles.length
   ·have g2i : ((2 : Int) < (s.fFiles.length : Int)) = True := by simp; omega
    have q0 := @g2i; have q1 := @decide_true; refine gT ?_
    first | (refine aJ (bU hl 3 (by decide) (by decide) i h hi hh) ⟨rfl, rfl⟩ ?_ rfl ?_; (focus first | rfl | (simp only [go_sem]; done))) | (refine hZ (bU hl 3 (by decide) (by decide) i h hi hh) ⟨rfl, rfl⟩ ?_ rfl ?_; (focus first | rfl | (simp only [go_sem]; done)))
    clear hi hh; rintro ⟨c1, i, h⟩ ⟨q1, hi, hh⟩; simp only at q1 hi hh; simp only [go_sem]
    cases c1
    ·refine aB ?_
     exact aF (s, i, h) ⟨⟨_, rfl, by simp only [go_sem]⟩, trivial⟩ ⟨hs7, ⟨hi, hh⟩⟩ (by simp only [go_sem])
    ·have g1 : 1 < s.fFiles.length := by omega
     have hdl := a1o s s.fFiles[1].fID (by omega) (b2e hs g1)
     have hsd := a6B s.fFiles[1].fID hs7
     generalize delS s s.fFiles[1].fID = s2 at *
     have qH := @g1; repeat' (with_reducible first | refine nY ?_ | (refine mX ?_; try simp only [go_sem, qH]) | refine kD ?_ | (apply rE [6,10] [] [0,1,2,3,4,5] [0,1,2,3,4,5] ((.c 6 [7,8,9] [7,8,9] (.c 10 [] [9] .n .n) .n)) (by simp only [go_sem]; rfl) (by simp only [go_sem]; rfl) (by simp only [go_sem]; rfl) (by decide +kernel); (focus simp only [go_sem]; done)) | exact aQ | refine aK (uX ?_) ?_ | refine aL (aX ?_) ?_ | refine aM (aX ?_) ?_ | exact bE | exact oH | exact uB | refine rD ?_ | refine cP hdl ?_ | refine aO ?_ | fail)
     exact aF (s2, i, h) ⟨⟨_, rfl, by simp only [go_sem]⟩, trivial⟩ ⟨hsd, ⟨hi, hh⟩⟩ (by simp only [go_sem])
   ·have g2i : ((2 : Int) < (s.fFiles.length : Int)) = False := by simp; omega
    have q0 := @g2i; have q1 := @decide_false; refine gT ?_
    exact aF (s, i, h) ⟨⟨_, rfl, by simp only [go_sem]⟩, trivial⟩ ⟨hs7, ⟨hi, hh⟩⟩ (by simp only [go_sem])
@[go_sem] def vi5 : List Int := [-1, 0, 999, 1000, 9223372036854775807]
@[go_sem] def vs5 : List ByteArray := [⟨#[]⟩, ⟨#[65]⟩, ⟨#[97, 98, 99, 100, 101, 102, 103]⟩, ⟨#[97, 98, 99, 100, 101, 102]⟩, ⟨#[97, 32, 98]⟩]
theorem uC {l : List Int} (hl : fA l) : Drw l 141 [] (fun v : TValue => valD v) (fun v => qL v) := by
 intro i h hi hh; refine kN Tryz.func141 rfl Tryz.call141 rfl (fun C b => ?_); simp only [go_sem, Tryz.ntmps141]
 refine aB ?_
 first | (refine aJ (nI hl i h hi hh) ⟨rfl, rfl⟩ ?_ rfl ?_; (focus first | rfl | (simp only [go_sem]; done))) | (refine hZ (nI hl i h hi hh) ⟨rfl, rfl⟩ ?_ rfl ?_; (focus first | rfl | (simp only [go_sem]; done)))
 clear hi hh; rintro ⟨v, i, h⟩ ⟨hv, hi, hh⟩; simp only at hv hi hh; simp only [go_sem]
 refine aB ?_
 first | (refine aJ (aC hl 10 (by decide) (by decide) i h hi hh) ⟨rfl, rfl⟩ ?_ rfl ?_; (focus first | rfl | (simp only [go_sem]; done))) | (refine hZ (aC hl 10 (by decide) (by decide) i h hi hh) ⟨rfl, rfl⟩ ?_ rfl ?_; (focus first | rfl | (simp only [go_sem]; done)))
 clear hi hh; rintro ⟨k, i, h⟩ ⟨hk, hi, hh⟩; simp only at hk hi hh; simp only [go_sem]
 have h3 : k = 0 ∨ k = 1 ∨ k = 2 ∨ (¬ k = 0 ∧ ¬ k = 1 ∧ ¬ k = 2) := by omega
 rcases h3 with rfl | rfl | rfl | ⟨k0, k1, k2⟩
 ·refine aB ?_
  first | (refine aJ (aC hl 5 (by decide) (by decide) i h hi hh) ⟨rfl, rfl⟩ ?_ rfl ?_; (focus first | rfl | (simp only [go_sem]; done))) | (refine hZ (aC hl 5 (by decide) (by decide) i h hi hh) ⟨rfl, rfl⟩ ?_ rfl ?_; (focus first | rfl | (simp only [go_sem]; done)))
  clear hi hh; rintro ⟨x, i, h⟩ ⟨hx, hi, hh⟩; simp only at hx hi hh; simp only [go_sem]
  refine aB ?_
  exact aF (⟨x - 1, v.fInt, v.fStr⟩, i, h) ⟨⟨_, rfl, by simp only [go_sem]⟩, trivial⟩ ⟨(show valD ⟨x - 1, v.fInt, v.fStr⟩ from ⟨hv.w, by simp only [inR]; omega, hv.n⟩), ⟨hi, hh⟩⟩ (by simp only [go_sem])
 ·refine aB ?_
  first | (refine aJ (eT hl vi5 (by decide) (by decide) i h hi hh) ⟨rfl, rfl⟩ ?_ rfl ?_; (focus first | rfl | (simp only [go_sem]; done))) | (refine hZ (eT hl vi5 (by decide) (by decide) i h hi hh) ⟨rfl, rfl⟩ ?_ rfl ?_; (focus first | rfl | (simp only [go_sem]; done)))
  clear hi hh; rintro ⟨x, i, h⟩ ⟨hx, hi, hh⟩; simp only at hx hi hh; simp only [go_sem]
  have hx2 := (by decide : ∀ n ∈ vi5, -1 ≤ n ∧ n ≤ 9223372036854775807) x hx
  refine aB ?_
  exact aF (⟨v.fKind, x, v.fStr⟩, i, h) ⟨⟨_, rfl, by simp only [go_sem]⟩, trivial⟩ ⟨(show valD ⟨v.fKind, x, v.fStr⟩ from ⟨hv.w, hv.k, by simp only [inR]; omega⟩), ⟨hi, hh⟩⟩ (by simp only [go_sem])
 ·refine aB ?_
  first | (refine aJ (bK hl vs5 (by decide) (by decide) i h hi hh) ⟨rfl, rfl⟩ ?_ rfl ?_; (focus first | rfl | (simp only [go_sem]; done))) | (refine hZ (bK hl vs5 (by decide) (by decide) i h hi hh) ⟨rfl, rfl⟩ ?_ rfl ?_; (focus first | rfl | (simp only [go_sem]; done)))
  clear hi hh; rintro ⟨x, i, h⟩ ⟨hx, hi, hh⟩; simp only at hx hi hh; simp only [go_sem]
  have hx2 := (by decide +kernel : ∀ n ∈ vs5, n.size ≤ 7) x hx
  refine aB ?_
  exact aF (⟨v.fKind, v.fInt, x⟩, i, h) ⟨⟨_, rfl, by simp only [go_sem]⟩, trivial⟩ ⟨(show valD ⟨v.fKind, v.fInt, x⟩ from ⟨hx2, hv.k, hv.n⟩), ⟨hi, hh⟩⟩ (by simp only [go_sem])
 ·have q0 := @k0; have q1 := @k1; have q2 := @k2; have q3 := @decide_false; refine mE ?_
  exact aF (v, i, h) ⟨⟨_, rfl, by simp only [go_sem]⟩, trivial⟩ ⟨hv, ⟨hi, hh⟩⟩ (by simp only [go_sem])
structure fileA (f : TFile) : Prop where
 w : aW f ≤ 80
 wf : a6E f
theorem a5n {id : Int} {f : TFile} (h : fileD id f) (hi : inR .i64 id) : fileA f := by
 obtain ⟨h1, h2, _⟩ := tV h
 have h3 := h.ow
 have h4 := h.lk
 exact ⟨by omega, by rw [h.id]; exact hi, by simp only [inR]; omega, trivial, by simp only [inR]; omega, h2⟩
@[go_sem] def fi4 : List Int := [0, 60, 61, -1]
@[go_sem] def fo3 : List Int := [-1, 2, 3]
@[go_sem] def fl4 : List Int := [-1, 60, 61, 9223372036854775807]
theorem b4j {f : TFile} (h : tX f.fAttrs) (hl : f.fAttrs.length ≤ 100) {s : ByteArray} {v : TValue} (hs : w1 s) (hv : valD v) : tX (f.fAttrs ++ [⟨s, v⟩]) := by
 unfold w1 at hs
 have := hv.w
 refine ⟨by simp; omega, fun y hy => ?_⟩
 rcases List.mem_append.1 hy with hy | hy
 ·exact h.2 y hy
 ·simp only [List.mem_singleton] at hy
  subst hy
  exact ⟨by simp only; omega, hv.k, hv.n, by simp only; omega⟩
theorem b4k {f : TFile} {s : ByteArray} {v : TValue} (hs : w1 s) (hv : valD v) (hw : aW f ≤ 40) : aW { f with fAttrs := f.fAttrs ++ [⟨s, v⟩] } ≤ 80 := by
 unfold w1 at hs
 have := hv.w
 unfold aW eB at hw ⊢
 rw [sP]
 simp only [List.length_append, List.length_cons, List.length_nil, dD, jP, nU]
 omega
theorem gW {l : List Int} (hl : fA l) : Drw l 72 [] (fun f : TFile => fileA f) (fun f => qZ f) := by
 intro i h hi hh; refine kN Tryz.func72 rfl Tryz.call72 rfl (fun C b => ?_); simp only [go_sem, Tryz.ntmps72]
 refine aB ?_
 first | (refine aJ (aC hl 7 (by decide) (by decide) i h hi hh) ⟨rfl, rfl⟩ ?_ rfl ?_; (focus first | rfl | (simp only [go_sem]; done))) | (refine hZ (aC hl 7 (by decide) (by decide) i h hi hh) ⟨rfl, rfl⟩ ?_ rfl ?_; (focus first | rfl | (simp only [go_sem]; done)))
 clear hi hh; rintro ⟨fid, i, h⟩ ⟨hfid, hi, hh⟩; simp only at hfid hi hh; simp only [go_sem]
 refine aB ?_
 first | (refine aJ (fU hl ((1 : Int) + fid) i h hi hh) ⟨rfl, rfl⟩ ?_ rfl ?_; (focus first | rfl | (simp only [go_sem]; done))) | (refine hZ (fU hl ((1 : Int) + fid) i h hi hh) ⟨rfl, rfl⟩ ?_ rfl ?_; (focus first | rfl | (simp only [go_sem]; done)))
 clear hi hh; rintro ⟨f, i, h⟩ ⟨hf, hi, hh⟩; simp only at hf hi hh; simp only [go_sem]
 have hfA := a5n hf (by simp only [inR]; omega)
 obtain ⟨hw, hwf, _⟩ := tV hf
 have hlen : f.fAttrs.length ≤ 40 := by unfold aW eB at hw; omega
 have how := hf.ow
 have hlk := hf.lk
 clear hf
 refine aB ?_
 first | (refine aJ (aC hl 14 (by decide) (by decide) i h hi hh) ⟨rfl, rfl⟩ ?_ rfl ?_; (focus first | rfl | (simp only [go_sem]; done))) | (refine hZ (aC hl 14 (by decide) (by decide) i h hi hh) ⟨rfl, rfl⟩ ?_ rfl ?_; (focus first | rfl | (simp only [go_sem]; done)))
 clear hi hh; rintro ⟨k, i, h⟩ ⟨hk, hi, hh⟩; simp only at hk hi hh; simp only [go_sem]
 have h5 : k = 0 ∨ k = 1 ∨ k = 2 ∨ k = 3 ∨ k = 4 ∨ (¬ k = 0 ∧ ¬ k = 1 ∧ ¬ k = 2 ∧ ¬ k = 3 ∧ ¬ k = 4) := by omega
 have q1 := hfA.wf.1
 have q2 := hfA.wf.2.1
 have q4 := hfA.wf.2.2.2.1
 rcases h5 with rfl | rfl | rfl | rfl | rfl | ⟨k0, k1, k2, k3, k4⟩
 ·refine aB ?_
  first | (refine aJ (eT hl fi4 (by decide) (by decide) i h hi hh) ⟨rfl, rfl⟩ ?_ rfl ?_; (focus first | rfl | (simp only [go_sem]; done))) | (refine hZ (eT hl fi4 (by decide) (by decide) i h hi hh) ⟨rfl, rfl⟩ ?_ rfl ?_; (focus first | rfl | (simp only [go_sem]; done)))
  clear hi hh; rintro ⟨x, i, h⟩ ⟨hx, hi, hh⟩; simp only at hx hi hh; simp only [go_sem]
  have hx2 := (by decide : ∀ n ∈ fi4, -1 ≤ n ∧ n ≤ 61) x hx
  refine aB ?_
  exact aF (⟨x, f.fOwner, f.fShared, f.fLink, f.fAttrs⟩, i, h) ⟨⟨_, rfl, by simp only [go_sem]⟩, trivial⟩ ⟨(show fileA ⟨x, f.fOwner, f.fShared, f.fLink, f.fAttrs⟩ from ⟨hfA.w, by simp only [inR]; omega, q2, trivial, q4, hwf⟩), ⟨hi, hh⟩⟩ (by simp only [go_sem])
 ·refine aB ?_
  first | (refine aJ (eT hl fo3 (by decide) (by decide) i h hi hh) ⟨rfl, rfl⟩ ?_ rfl ?_; (focus first | rfl | (simp only [go_sem]; done))) | (refine hZ (eT hl fo3 (by decide) (by decide) i h hi hh) ⟨rfl, rfl⟩ ?_ rfl ?_; (focus first | rfl | (simp only [go_sem]; done)))
  clear hi hh; rintro ⟨x, i, h⟩ ⟨hx, hi, hh⟩; simp only at hx hi hh; simp only [go_sem]
  have hx2 := (by decide : ∀ n ∈ fo3, -1 ≤ n ∧ n ≤ 3) x hx
  refine aB ?_
  exact aF (⟨f.fID, x, f.fShared, f.fLink, f.fAttrs⟩, i, h) ⟨⟨_, rfl, by simp only [go_sem]⟩, trivial⟩ ⟨(show fileA ⟨f.fID, x, f.fShared, f.fLink, f.fAttrs⟩ from ⟨hfA.w, q1, by simp only [inR]; omega, trivial, q4, hwf⟩), ⟨hi, hh⟩⟩ (by simp only [go_sem])
 ·refine aB ?_
  first | (refine aJ (eT hl fl4 (by decide) (by decide) i h hi hh) ⟨rfl, rfl⟩ ?_ rfl ?_; (focus first | rfl | (simp only [go_sem]; done))) | (refine hZ (eT hl fl4 (by decide) (by decide) i h hi hh) ⟨rfl, rfl⟩ ?_ rfl ?_; (focus first | rfl | (simp only [go_sem]; done)))
  clear hi hh; rintro ⟨x, i, h⟩ ⟨hx, hi, hh⟩; simp only at hx hi hh; simp only [go_sem]
  have hx2 := (by decide : ∀ n ∈ fl4, -1 ≤ n ∧ n ≤ 9223372036854775807) x hx
  refine aB ?_
  exact aF (⟨f.fID, f.fOwner, f.fShared, x, f.fAttrs⟩, i, h) ⟨⟨_, rfl, by simp only [go_sem]⟩, trivial⟩ ⟨(show fileA ⟨f.fID, f.fOwner, f.fShared, x, f.fAttrs⟩ from ⟨hfA.w, q1, q2, trivial, by simp only [inR]; omega, hwf⟩), ⟨hi, hh⟩⟩ (by simp only [go_sem])
 ·have hl1 : f.fAttrs.length + 1 ≤ 140737488355328 := by omega
  have hl2 : (f.fAttrs.length + 1) * 48 ≤ 140737488355328 := by omega
  have qH := aI @hl1 @hl2; repeat' (with_reducible first | refine nY ?_ | (refine mX ?_; try simp only [go_sem, qH]) | refine kD ?_ | (apply rF [3,5,7,8,10] [] [0,1,2,4] [0,1,2,4] ((.c 3 [] [0,1,4] (.c 5 [6] [0,1,6] (.c 7 [] [0,1] (.c 8 [9] [9] (.c 10 [] [] .n .n) .n) .n) .n) .n)) (by simp only [go_sem]; rfl) (by simp only [go_sem]; rfl) (by simp only [go_sem]; rfl) (by decide +kernel); (focus simp only [go_sem]; done)) | exact aQ | refine aK (uX ?_) ?_ | refine aL (aX ?_) ?_ | refine aM (aX ?_) ?_ | exact bE | exact oH | exact uB | refine rD ?_ | refine aO ?_ | fail)
  first | (refine aJ (qK hl i h hi hh) ⟨rfl, rfl⟩ ?_ rfl ?_; (focus first | rfl | (simp only [go_sem]; done))) | (refine hZ (qK hl i h hi hh) ⟨rfl, rfl⟩ ?_ rfl ?_; (focus first | rfl | (simp only [go_sem]; done)))
  clear hi hh; rintro ⟨nm, i, h⟩ ⟨hnm, hi, hh⟩; simp only at hnm hi hh; simp only [go_sem]
  have qH := aI @hl1 @hl2; repeat' (with_reducible first | refine nY ?_ | (refine mX ?_; try simp only [go_sem, qH]) | refine kD ?_ | exact aQ | refine aK (uX ?_) ?_ | refine aL (aX ?_) ?_ | refine aM (aX ?_) ?_ | exact uB | refine rD ?_ | refine aO ?_ | fail)
  first | (refine aJ (uC hl i h hi hh) ⟨rfl, rfl⟩ ?_ rfl ?_; (focus first | rfl | (simp only [go_sem]; done))) | (refine hZ (uC hl i h hi hh) ⟨rfl, rfl⟩ ?_ rfl ?_; (focus first | rfl | (simp only [go_sem]; done)))
  clear hi hh; rintro ⟨v, i, h⟩ ⟨hv, hi, hh⟩; simp only at hv hi hh; simp only [go_sem]
  have qH := aI @hl1 @hl2; repeat' (with_reducible first | refine nY ?_ | (refine mX ?_; try simp only [go_sem, qH]) | refine kD ?_ | exact aQ | refine aK (uX ?_) ?_ | refine aL (aX ?_) ?_ | refine aM (aX ?_) ?_ | exact uB | refine rD ?_ | refine aO ?_ | fail)
  exact aF ({ f with fAttrs := f.fAttrs ++ [⟨nm, v⟩] }, i, h) ⟨⟨_, rfl, by simp only [go_sem, List.map_append]⟩, trivial⟩ ⟨⟨b4k hnm hv hw, q1, q2, trivial, q4, b4j hwf (by omega) hnm hv⟩, ⟨hi, hh⟩⟩ (by simp only [go_sem])
 ·have hc := bN f ⟨#[97]⟩ ⟨2, 0, ⟨#[114, 101, 100]⟩⟩ (by omega)
  have hws := b0F ⟨#[97]⟩ ⟨2, 0, ⟨#[114, 101, 100]⟩⟩ f.fAttrs
  have e8 : jP ⟨⟨#[97]⟩, ⟨2, 0, ⟨#[114, 101, 100]⟩⟩⟩ = 4 := by decide +kernel
  have hwf2 : tX (rM ⟨#[97]⟩ ⟨2, 0, ⟨#[114, 101, 100]⟩⟩ f.fAttrs) := by
   have hsl := b0G ⟨#[97]⟩ ⟨2, 0, ⟨#[114, 101, 100]⟩⟩ f.fAttrs
   refine ⟨by omega, fun y hy => ?_⟩
   unfold rM iA at hy
   rw [if_neg (by decide)] at hy
   have hdel : ∀ z ∈ kX ⟨#[97]⟩ f.fAttrs, a6D z := fun z hz => hwf.2 z ((List.mem_filter.1 hz).1)
   rcases List.mem_append.1 hy with hy | hy
   ·exact hdel y (List.mem_of_mem_take hy)
   ·rcases List.mem_cons.1 hy with rfl | hy
    ·exact ⟨by decide, in2, in0, by decide⟩
    ·exact hdel y (List.mem_of_mem_drop hy)
  have qH := trivial; repeat' (with_reducible first | refine nY ?_ | (refine mX ?_; try simp only [go_sem]) | refine kD ?_ | (apply rF [1,2,3] [] [0] [0] ((.c 1 [] [0] (.c 2 [] [] (.c 3 [] [] .n .n) .n) .n)) (by simp only [go_sem]; rfl) (by simp only [go_sem]; rfl) (by simp only [go_sem]; rfl) (by decide +kernel); (focus simp only [go_sem]; done)) | exact aQ | refine aK (uX ?_) ?_ | refine aL (aX ?_) ?_ | refine aM (aX ?_) ?_ | exact bE | exact oH | (refine uA ?_; simp only [go_sem]; (repeat' first | omega | refine And.intro ?_ ?_); done) | refine rD ?_ | refine cP (oQ ⟨#[114, 101, 100]⟩) ?_ | refine hR hc ?_ | refine vR hc ?_ | refine vD hc ?_ | refine aO ?_ | fail)
  exact aF (setF f ⟨#[97]⟩ ⟨2, 0, ⟨#[114, 101, 100]⟩⟩, i, h) ⟨⟨_, rfl, by simp only [go_sem]⟩, trivial⟩ ⟨(show fileA (setF f ⟨#[97]⟩ ⟨2, 0, ⟨#[114, 101, 100]⟩⟩) from ⟨by have h40 : eB f.fAttrs ≤ 40 := hw; unfold aW setF; simp only; omega, q1, q2, trivial, q4, hwf2⟩), ⟨hi, hh⟩⟩ (by simp only [go_sem])
 ·have q0 := @k0; have q1 := @k1; have q2 := @k2; have q3 := @k3; have q4 := @k4; have q5 := @decide_false; refine b0f ?_
  exact aF (f, i, h) ⟨⟨_, rfl, by simp only [go_sem]⟩, trivial⟩ ⟨hfA, ⟨hi, hh⟩⟩ (by simp only [go_sem])
structure idsD (k : Nat) (x : List Int) : Prop where
 up : x.Pairwise (· < ·)
 lo : ∀ y ∈ x, 1 ≤ y ∧ y < k
 len : x.length < k
theorem a8W {k : Nat} {x : List Int} (h : idsD k x) : idsD (k + 1) x := ⟨h.up, fun y hy => by have := h.lo y hy; omega, by have := h.len; omega⟩
theorem b0R {k : Nat} {x : List Int} (hk : 1 ≤ k) (h : idsD k x) : idsD (k + 1) (x ++ [(k : Int)]) := by
 refine ⟨?_, fun y hy => ?_, by have := h.len; simp; omega⟩
 ·rw [List.pairwise_append]
  refine ⟨h.up, List.pairwise_singleton _ _, fun y hy z hz => ?_⟩
  simp only [List.mem_singleton] at hz
  subst hz
  exact (h.lo y hy).2
 ·rcases List.mem_append.1 hy with hy | hy
  ·have := h.lo y hy; omega
  ·simp only [List.mem_singleton] at hy; omega
theorem a2F {l : List Int} (hl : fA l) : Drw l 134 [] (fun x : List Int => idsD 8 x) (fun x => .o (.w 3 1 (x.map jH))) := by
 intro i h hi hh; refine kN Tryz.func134 rfl Tryz.call134 rfl (fun C b => ?_); simp only [go_sem, Tryz.ntmps134]
 refine aB ?_
 refine bB (α := Nat × List Int × Nat × Int) (fun x => [(3, .o (.s 1)), (4, oi x.1), (12, .o .u), (5, .o .u)]) (fun x => [(0, .pin b 158 [.sl (l.map kM), iv x.2.2.1, iv x.2.2.2]), (1, .row 3 1 (x.2.1.map jH) true)]) (fun x => (1 ≤ x.1 ∧ x.1 ≤ 8 ∧ idsD x.1 x.2.1) ∧ (x.2.2.1 ≤ l.length ∧ inR .i64 x.2.2.2)) (fun x => 8 - x.1) (1, [], i, h) (fun _ => ?_) ?_ ?_ (fun x hx => ?_)
 ·simp only [go_sem]
 ·simp only [go_sem]; simp
 ·exact ⟨⟨Nat.le_refl _, by simp only; omega, List.Pairwise.nil, fun y hy => by simp at hy, by simp⟩, hi, hh⟩
 ·obtain ⟨k, x, i, h⟩ := x
  obtain ⟨⟨k1, k8, hx⟩, hi, hh⟩ := hx
  simp only at k1 k8 hx hi hh
  have hlen := hx.len
  have hl1 : x.length + 1 ≤ 140737488355328 := by omega
  have hl2 : (x.length + 1) * 8 ≤ 140737488355328 := by omega
  simp only [go_sem]
  refine aB ?_
  refine cnd rfl (fun hlt => ?_) (fun hlt => ?_)
  ·simp only [decide_eq_true_eq] at hlt
   refine aB ?_
   first | (refine aJ (bU hl 2 (by decide) (by decide) i h hi hh) ⟨rfl, rfl⟩ ?_ rfl ?_; (focus first | rfl | (simp only [go_sem]; done))) | (refine hZ (bU hl 2 (by decide) (by decide) i h hi hh) ⟨rfl, rfl⟩ ?_ rfl ?_; (focus first | rfl | (simp only [go_sem]; done)))
   clear hi hh; rintro ⟨c1, i, h⟩ ⟨q1, hi, hh⟩; simp only at q1 hi hh; simp only [go_sem]
   cases c1
   ·refine aB ?_
    refine aD (k + 1, x, i, h) ?_ ?_ ?_
    ·simp only [go_sem]; simp
    ·exact ⟨⟨by simp only; omega, by simp only; omega, a8W hx⟩, hi, hh⟩
    ·simp only; omega
   ·have q0 := @hl1; have q1 := @hl2; refine gT ?_
    refine aD (k + 1, x ++ [(k : Int)], i, h) ?_ ?_ ?_
    ·simp only [go_sem]; simp [jH]
    ·exact ⟨⟨by simp only; omega, by simp only; omega, b0R k1 hx⟩, hi, hh⟩
    ·simp only; omega
  ·simp only [decide_eq_false_iff_not] at hlt
   have e : k = 8 := by omega
   subst e
   refine aB ?_
   exact aF (x, i, h) ⟨⟨_, rfl, by simp only [go_sem]⟩, trivial⟩ ⟨hx, ⟨hi, hh⟩⟩ (by simp only [go_sem])
structure schA (s : List TField) : Prop where
 hi : s.length ≤ 8
 nm : ∀ f ∈ s, f.fName.size ≤ 40
theorem a6z : schA usual := ⟨by decide, by decide +kernel⟩
theorem a4P {s : List TField} (h : schA s) (k : Nat) {f : TField} (hf : f.fName.size ≤ 40) : schA (s.set k f) := ⟨by simpa using h.hi, fun x hx => by
 rcases List.mem_or_eq_of_mem_set hx with hx | rfl
 ·exact h.nm x hx
 ·exact hf⟩
theorem a4Q {s t : List TField} (h : schA s) (ht : ∀ f ∈ t, f.fName.size ≤ 40) (hl : s.length + t.length ≤ 8) : schA (s ++ t) := ⟨by simpa using hl, fun x hx => by
 rcases List.mem_append.1 hx with hx | hx
 ·exact h.nm x hx
 ·exact ht x hx⟩
theorem b3G {s : List TField} (h : schA s) : dH s ≤ 400 := by
 have h1 := xG yO 40 s fun f hf => by have := h.nm f hf; unfold yO; omega
 have h2 := h.hi
 unfold dH
 omega
@[go_sem] def nm3 : List ByteArray := [⟨#[117]⟩, ⟨#[122]⟩, ⟨#[97]⟩]
theorem a2s {l : List Int} (hl : fA l) : Drw l 195 [] (fun s : List TField => schA s) (fun s => .o (.d (.sl (s.map dE)))) := by
 have hu4 : usual.length = 4 := rfl
 have hus := a6z
 have huk := zT
 generalize usual = U at *
 have hl1 : U.length + 1 ≤ 140737488355328 := by omega
 have hl2 : (U.length + 1) * 24 ≤ 140737488355328 := by omega
 have hl3 : U.length + 2 ≤ 140737488355328 := by omega
 have hl4 : (U.length + 2) * 24 ≤ 140737488355328 := by omega
 intro i h hi hh; refine kN Tryz.func195 rfl Tryz.call195 rfl (fun C b => ?_); simp only [go_sem, Tryz.ntmps195]
 have qH := trivial; repeat' (with_reducible first | refine nY ?_ | (refine mX ?_; try simp only [go_sem]) | refine kD ?_ | refine rD ?_ | refine vR huk ?_ | refine vD huk ?_ | refine aO ?_ | fail)
 first | (refine aJ (aC hl 8 (by decide) (by decide) i h hi hh) ⟨rfl, rfl⟩ ?_ rfl ?_; (focus first | rfl | (simp only [go_sem]; done))) | (refine hZ (aC hl 8 (by decide) (by decide) i h hi hh) ⟨rfl, rfl⟩ ?_ rfl ?_; (focus first | rfl | (simp only [go_sem]; done)))
 clear hi hh; rintro ⟨c, i, h⟩ ⟨hc, hi, hh⟩; simp only at hc hi hh; simp only [go_sem]
 have h6 : c = 0 ∨ c = 1 ∨ c = 2 ∨ c = 3 ∨ c = 4 ∨ (¬ c = 0 ∧ ¬ c = 1 ∧ ¬ c = 2 ∧ ¬ c = 3 ∧ ¬ c = 4) := by omega
 rcases h6 with rfl | rfl | rfl | rfl | rfl | ⟨k0, k1, k2, k3, k4⟩
 ·refine aB ?_
  first | (refine aJ (aC hl 4 (by decide) (by decide) i h hi hh) ⟨rfl, rfl⟩ ?_ rfl ?_; (focus first | rfl | (simp only [go_sem]; done))) | (refine hZ (aC hl 4 (by decide) (by decide) i h hi hh) ⟨rfl, rfl⟩ ?_ rfl ?_; (focus first | rfl | (simp only [go_sem]; done)))
  clear hi hh; rintro ⟨x, i, h⟩ ⟨hx, hi, hh⟩; simp only at hx hi hh; simp only [go_sem]
  obtain ⟨k, rfl⟩ := Int.eq_ofNat_of_zero_le hx.1
  have hk : k ≤ U.length := by omega
  have q0 := @hk; refine dZ ?_
  exact aF (U.take k, i, h) ⟨⟨_, rfl, by simp only [go_sem, List.map_take]⟩, trivial⟩ ⟨(show schA _ from ⟨by simp; omega, fun f hf => hus.nm f (List.mem_of_mem_take hf)⟩), ⟨hi, hh⟩⟩ (by simp only [go_sem])
 ·refine aB ?_
  first | (refine aJ (aC hl 4 (by decide) (by decide) i h hi hh) ⟨rfl, rfl⟩ ?_ rfl ?_; (focus first | rfl | (simp only [go_sem]; done))) | (refine hZ (aC hl 4 (by decide) (by decide) i h hi hh) ⟨rfl, rfl⟩ ?_ rfl ?_; (focus first | rfl | (simp only [go_sem]; done)))
  clear hi hh; rintro ⟨x, i, h⟩ ⟨hx, hi, hh⟩; simp only at hx hi hh; simp only [go_sem]
  obtain ⟨k, rfl⟩ := Int.eq_ofNat_of_zero_le hx.1
  have hk : k < U.length := by omega
  refine aB ?_
  first | (refine aJ (aC hl 5 (by decide) (by decide) i h hi hh) ⟨rfl, rfl⟩ ?_ rfl ?_; (focus first | rfl | (simp only [go_sem]; done))) | (refine hZ (aC hl 5 (by decide) (by decide) i h hi hh) ⟨rfl, rfl⟩ ?_ rfl ?_; (focus first | rfl | (simp only [go_sem]; done)))
  clear hi hh; rintro ⟨y, i, h⟩ ⟨hy, hi, hh⟩; simp only at hy hi hh; simp only [go_sem]
  have q0 := @hk; refine dZ ?_
  refine dL (Sees.frz 1 rfl) ?_
  simp only [go_sem]
  exact aF (U.set k ⟨U[k].fName, y - 1⟩, i, h) ⟨⟨_, rfl, by simp only [go_sem, List.map_set, List.map_append, List.map_cons, List.map_nil]; try rfl⟩, trivial⟩ ⟨(show schA _ from a4P hus k (hus.nm U[k] (List.getElem_mem hk))), ⟨hi, hh⟩⟩ (by simp only [go_sem])
 ·refine aB ?_
  first | (refine aJ (aC hl 4 (by decide) (by decide) i h hi hh) ⟨rfl, rfl⟩ ?_ rfl ?_; (focus first | rfl | (simp only [go_sem]; done))) | (refine hZ (aC hl 4 (by decide) (by decide) i h hi hh) ⟨rfl, rfl⟩ ?_ rfl ?_; (focus first | rfl | (simp only [go_sem]; done)))
  clear hi hh; rintro ⟨x, i, h⟩ ⟨hx, hi, hh⟩; simp only at hx hi hh; simp only [go_sem]
  obtain ⟨k, rfl⟩ := Int.eq_ofNat_of_zero_le hx.1
  have hk : k < U.length := by omega
  refine aB ?_
  first | (refine aJ (qK hl i h hi hh) ⟨rfl, rfl⟩ ?_ rfl ?_; (focus first | rfl | (simp only [go_sem]; done))) | (refine hZ (qK hl i h hi hh) ⟨rfl, rfl⟩ ?_ rfl ?_; (focus first | rfl | (simp only [go_sem]; done)))
  clear hi hh; rintro ⟨y, i, h⟩ ⟨hy, hi, hh⟩; simp only at hy hi hh; simp only [go_sem]
  have hy2 : y.size ≤ 40 := by unfold w1 at hy; omega
  have q0 := @hk; refine dZ ?_
  refine dL (Sees.frz 1 rfl) ?_
  simp only [go_sem]
  exact aF (U.set k ⟨y, U[k].fKind⟩, i, h) ⟨⟨_, rfl, by simp only [go_sem, List.map_set, List.map_append, List.map_cons, List.map_nil]; try rfl⟩, trivial⟩ ⟨(show schA _ from a4P hus k hy2), ⟨hi, hh⟩⟩ (by simp only [go_sem])
 ·refine aB ?_
  first | (refine aJ (bK hl nm3 (by decide) (by decide) i h hi hh) ⟨rfl, rfl⟩ ?_ rfl ?_; (focus first | rfl | (simp only [go_sem]; done))) | (refine hZ (bK hl nm3 (by decide) (by decide) i h hi hh) ⟨rfl, rfl⟩ ?_ rfl ?_; (focus first | rfl | (simp only [go_sem]; done)))
  clear hi hh; rintro ⟨y, i, h⟩ ⟨hy, hi, hh⟩; simp only at hy hi hh; simp only [go_sem]
  have hy2 := (by decide +kernel : ∀ n ∈ nm3, n.size ≤ 40) y hy
  have q0 := @hl1; have q1 := @hl2; refine gT ?_
  refine dL (Sees.frz 1 rfl) ?_
  simp only [go_sem]
  exact aF (U ++ [⟨y, 1⟩], i, h) ⟨⟨_, rfl, by simp only [go_sem, List.map_set, List.map_append, List.map_cons, List.map_nil]; try rfl⟩, trivial⟩ ⟨(show schA _ from a4Q hus (by simpa using hy2) (by simp; omega)), ⟨hi, hh⟩⟩ (by simp only [go_sem])
 ·have q0 := @hl3; have q1 := @hl4; refine gT ?_
  refine dL (Sees.frz 1 rfl) ?_
  simp only [go_sem]
  exact aF (U ++ [⟨⟨#[117]⟩, 1⟩, ⟨⟨#[118]⟩, 2⟩], i, h) ⟨⟨_, rfl, by simp only [go_sem, List.map_set, List.map_append, List.map_cons, List.map_nil]; try rfl⟩, trivial⟩ ⟨(show schA _ from a4Q hus (by decide +kernel) (by simp; omega)), ⟨hi, hh⟩⟩ (by simp only [go_sem])
 ·have q0 := @k0; have q1 := @k1; have q2 := @k2; have q3 := @k3; have q4 := @k4; have q5 := @decide_false; refine b0f ?_
  refine dL (Sees.frz 1 rfl) ?_
  simp only [go_sem]
  exact aF (U, i, h) ⟨⟨_, rfl, by simp only [go_sem, List.map_set, List.map_append, List.map_cons, List.map_nil]; try rfl⟩, trivial⟩ ⟨(show schA _ from hus), ⟨hi, hh⟩⟩ (by simp only [go_sem])
structure storeA (s : TStore) : Prop where
 w : bW s ≤ 2000
 nx : 0 ≤ s.fNextID ∧ s.fNextID ≤ 62
 idr : ∀ f ∈ s.fFiles, inR .i64 f.fID
theorem yM {k : Nat} {s : TStore} (h : storeD k s) : storeA s := by
 have h1 := sF h
 have h2 := (eF.1 h.ok).2.2.2
 refine ⟨by omega, by omega, fun f hf => ?_⟩
 obtain ⟨k, hk, rfl⟩ := List.mem_iff_getElem.1 hf
 have h3 := ((dV hk).1 ((eF.1 h.ok).1 k hk)).1
 unfold fI inB at h3
 simp only [Bool.and_eq_true, decide_eq_true_eq] at h3
 simp only [inR]
 omega
@[go_sem] def nx4 : List Int := [0, 60, 61, 62]
theorem b2d (s : List TFile) (f : TFile) : iE (s ++ [f]) = iE s + aW f + 1 := by
 unfold iE
 rw [sP]
 simp only [List.length_append, List.length_cons, List.length_nil, dD]
 omega
theorem a2t {l : List Int} (hl : fA l) : Drw l 135 [] (fun s : TStore => storeA s) (fun s => a1n s) := by
 intro i h hi hh; refine kN Tryz.func135 rfl Tryz.call135 rfl (fun C b => ?_); simp only [go_sem, Tryz.ntmps135]
 refine aB ?_
 first | (refine aJ (nG hl i h hi hh) ⟨rfl, rfl⟩ ?_ rfl ?_; (focus first | rfl | (simp only [go_sem]; done))) | (refine hZ (nG hl i h hi hh) ⟨rfl, rfl⟩ ?_ rfl ?_; (focus first | rfl | (simp only [go_sem]; done)))
 clear hi hh; rintro ⟨s, i, h⟩ ⟨hs, hi, hh⟩; simp only at hs hi hh; simp only [go_sem]
 have hsA := yM hs
 have hw := sF hs
 have hn := hs.ln
 refine aB ?_
 first | (refine aJ (aC hl 14 (by decide) (by decide) i h hi hh) ⟨rfl, rfl⟩ ?_ rfl ?_; (focus first | rfl | (simp only [go_sem]; done))) | (refine hZ (aC hl 14 (by decide) (by decide) i h hi hh) ⟨rfl, rfl⟩ ?_ rfl ?_; (focus first | rfl | (simp only [go_sem]; done)))
 clear hi hh; rintro ⟨c, i, h⟩ ⟨hc, hi, hh⟩; simp only at hc hi hh; simp only [go_sem]
 have h5 : c = 0 ∨ c = 1 ∨ c = 2 ∨ c = 3 ∨ (¬ c = 0 ∧ ¬ c = 1 ∧ ¬ c = 2 ∧ ¬ c = 3) := by omega
 rcases h5 with rfl | rfl | rfl | rfl | ⟨k0, k1, k2, k3⟩
 ·refine aB ?_
  first | (refine aJ (eT hl nx4 (by decide) (by decide) i h hi hh) ⟨rfl, rfl⟩ ?_ rfl ?_; (focus first | rfl | (simp only [go_sem]; done))) | (refine hZ (eT hl nx4 (by decide) (by decide) i h hi hh) ⟨rfl, rfl⟩ ?_ rfl ?_; (focus first | rfl | (simp only [go_sem]; done)))
  clear hi hh; rintro ⟨x, i, h⟩ ⟨hx, hi, hh⟩; simp only at hx hi hh; simp only [go_sem]
  have hx2 := (by decide : ∀ n ∈ nx4, 0 ≤ n ∧ n ≤ 62) x hx
  refine aB ?_
  exact aF (⟨s.fSchema, s.fFiles, x⟩, i, h) ⟨⟨_, rfl, by simp only [go_sem]⟩, trivial⟩ ⟨(show storeA ⟨s.fSchema, s.fFiles, x⟩ from ⟨hsA.w, hx2, hsA.idr⟩), ⟨hi, hh⟩⟩ (by simp only [go_sem])
 ·have qH := trivial; repeat' (with_reducible first | refine nY ?_ | (refine mX ?_; try simp only [go_sem]) | refine kD ?_ | (apply rF [3,4,5,7] [] [0,1,2] [0,1,2] ((.c 3 [] [0,1] (.c 4 [] [0,1] (.c 5 [6] [6] (.c 7 [] [] .n .n) .n) .n) .n)) (by simp only [go_sem]; rfl) (by simp only [go_sem]; rfl) (by simp only [go_sem]; rfl) (by decide +kernel); (focus simp only [go_sem]; done)) | exact aQ | refine aK (uX ?_) ?_ | refine aL (aX ?_) ?_ | refine aM (aX ?_) ?_ | exact bE | exact oH | (refine uA ?_; simp only [go_sem]; (repeat' first | omega | refine And.intro ?_ ?_); done) | refine rD ?_ | refine aO ?_ | fail)
  first | (refine aJ (gW hl i h hi hh) ⟨rfl, rfl⟩ ?_ rfl ?_; (focus first | rfl | (simp only [go_sem]; done))) | (refine hZ (gW hl i h hi hh) ⟨rfl, rfl⟩ ?_ rfl ?_; (focus first | rfl | (simp only [go_sem]; done)))
  clear hi hh; rintro ⟨f, i, h⟩ ⟨hf, hi, hh⟩; simp only at hf hi hh; simp only [go_sem]
  have hfw := hf.w
  have hl1 : s.fFiles.length + 1 ≤ 140737488355328 := by omega
  have hl2 : (s.fFiles.length + 1) * 56 ≤ 140737488355328 := by omega
  have qH := aI @hl1 @hl2; repeat' (with_reducible first | refine nY ?_ | (refine mX ?_; try simp only [go_sem, qH]) | refine kD ?_ | exact aQ | refine aK (uX ?_) ?_ | refine aL (aX ?_) ?_ | refine aM (aX ?_) ?_ | exact uB | refine rD ?_ | refine aO ?_ | fail)
  exact aF (⟨s.fSchema, s.fFiles ++ [f], s.fNextID⟩, i, h) ⟨⟨_, rfl, by simp only [go_sem, List.map_append, List.map_cons, List.map_nil]; try rfl⟩, trivial⟩ ⟨(show storeA ⟨s.fSchema, s.fFiles ++ [f], s.fNextID⟩ from ⟨by unfold bW at hw ⊢; simp only; rw [b2d]; omega, hsA.nx, fun g hg => by
   rcases List.mem_append.1 hg with hg | hg
   ·exact hsA.idr g hg
   ·simp only [List.mem_singleton] at hg; subst hg; exact hf.wf.1⟩), ⟨hi, hh⟩⟩ (by simp only [go_sem])
 ·refine aB ?_
  first | (refine aJ (a2s hl i h hi hh) ⟨rfl, rfl⟩ ?_ rfl ?_; (focus first | rfl | (simp only [go_sem]; done))) | (refine hZ (a2s hl i h hi hh) ⟨rfl, rfl⟩ ?_ rfl ?_; (focus first | rfl | (simp only [go_sem]; done)))
  clear hi hh; rintro ⟨t, i, h⟩ ⟨ht, hi, hh⟩; simp only at ht hi hh; simp only [go_sem]
  have htw := b3G ht
  refine aB ?_
  exact aF (⟨t, s.fFiles, s.fNextID⟩, i, h) ⟨⟨_, rfl, by simp only [go_sem]⟩, trivial⟩ ⟨(show storeA ⟨t, s.fFiles, s.fNextID⟩ from ⟨by unfold bW at hw ⊢; simp only; omega, hsA.nx, hsA.idr⟩), ⟨hi, hh⟩⟩ (by simp only [go_sem])
 ·refine aB ?_
  refine bB (α := TStore × Nat × Int) (fun x => [(5, .o .u)]) (fun x => [(0, .pin b 158 [.sl (l.map kM), iv x.2.1, iv x.2.2]), (3, .box 39 [.d (.sl (x.1.fSchema.map dE)), .s 2, .d (iv x.1.fNextID)]), (2, .row 27 5 (x.1.fFiles.map dN) false)]) (fun x => storeD (8 + x.1.fFiles.length) x.1 ∧ (x.2.1 ≤ l.length ∧ inR .i64 x.2.2)) (fun x => 13 - x.1.fFiles.length) (s, i, h) (fun _ => ?_) ?_ ?_ (fun x hx => ?_)
  ·simp only [go_sem]
  ·simp only [go_sem]; simp
  ·exact ⟨a2u hs (by omega), hi, hh⟩
  ·clear hi hh hsA hw hn hs
   obtain ⟨s, i, h⟩ := x
   obtain ⟨hs, hi, hh⟩ := hx
   simp only at hs hi hh
   have hw := sF hs
   have hsA := yM hs
   simp only [go_sem]
   refine aB ?_
   refine cnd rfl (fun hlt => ?_) (fun hlt => ?_)
   ·simp only [decide_eq_true_eq] at hlt
    have hlt2 : s.fFiles.length < 12 := by omega
    have qH := trivial; repeat' (with_reducible first | refine nY ?_ | (refine mX ?_; try simp only [go_sem]) | refine kD ?_ | (apply rF [2,3,8] [] [0,1] [0,1] ((.c 2 [] [0] (.c 3 [4,5,6,7] [4,5,6,7] (.c 8 [] [6,7] .n .n) .n) .n)) (by simp only [go_sem]; rfl) (by simp only [go_sem]; rfl) (by simp only [go_sem]; rfl) (by decide +kernel); (focus simp only [go_sem]; done)) | exact aQ | refine aK (uX ?_) ?_ | refine aL (aX ?_) ?_ | refine aM (aX ?_) ?_ | exact bE | exact oH | (refine uA ?_; simp only [go_sem]; (repeat' first | omega | refine And.intro ?_ ?_); done) | refine rD ?_ | refine aO ?_ | fail)
    first | (refine aJ (fU hl 1 i h hi hh) ⟨rfl, rfl⟩ ?_ rfl ?_; (focus first | rfl | (simp only [go_sem]; done))) | (refine hZ (fU hl 1 i h hi hh) ⟨rfl, rfl⟩ ?_ rfl ?_; (focus first | rfl | (simp only [go_sem]; done)))
    clear hi hh; rintro ⟨f, i, h⟩ ⟨hf, hi, hh⟩; simp only at hf hi hh; simp only [go_sem]
    have hfw := (tV hf).1
    obtain ⟨hc1, hc2, hc3⟩ := a1b hs hf (by omega) hlt2
    have hcr := sG s f (by omega) (by omega)
    rw [hc1] at hcr
    generalize creS s f = s2 at *
    have qH := trivial; repeat' (with_reducible first | refine nY ?_ | (refine mX ?_; try simp only [go_sem]) | refine kD ?_ | exact aQ | refine aK (uX ?_) ?_ | refine aL (aX ?_) ?_ | refine aM (aX ?_) ?_ | (refine uA ?_; simp only [go_sem]; (repeat' first | omega | refine And.intro ?_ ?_); done) | refine rD ?_ | refine cP hcr ?_ | refine aO ?_ | fail)
    refine a3b [(2, 5)] (s2, i, h) (by simp only [go_sem]; rfl) ?_ ?_ ?_
    ·simp only [go_sem]; simp
    ·exact ⟨by simp only; rw [hc3]; exact hc2, hi, hh⟩
    ·simp only; omega
   ·refine aB ?_
    exact aF (s, i, h) ⟨⟨_, rfl, by simp only [go_sem]⟩, trivial⟩ ⟨hsA, ⟨hi, hh⟩⟩ (by simp only [go_sem])
 ·have q0 := @k0; have q1 := @k1; have q2 := @k2; have q3 := @k3; have q4 := @decide_false; refine xD ?_
  exact aF (s, i, h) ⟨⟨_, rfl, by simp only [go_sem]⟩, trivial⟩ ⟨hsA, ⟨hi, hh⟩⟩ (by simp only [go_sem])
end Go.Proofs.YtolgdibgnndoaaaGreat
end
