/- Joined texts. -/
import Derived.Test.YtddimbdeggomaaaGreatZ12
import Derived.Test.YtddimbdeggomaaaGreatZ11
import Derived.Test.YtddimbdeggomaaaGreatZ13
import Derived.Sort.Walk0
import Derived.Test.YtddimbdeggomaaaGreatZ07
set_option linter.all false
section
namespace Go.Proofs.YtddimbdeggomaaaGreat
open Go Go.Sx Go.RowKit Go.Proofs
theorem ki {x : TStore} : bf x = true ↔ (∀ k, k < x.fFiles.length → cY x k = true) ∧ okSchema x.fSchema = true ∧ x.fFiles.length ≤ 12 ∧ 1 ≤ x.fNextID ∧ x.fNextID ≤ 61 := by
 unfold bf inB
 simp only [Bool.and_eq_true, List.all_eq_true, List.mem_range, decide_eq_true_eq]
 constructor
 ·rintro ⟨h1, h2, h3, h4, h5⟩; exact ⟨h1, h2, by omega, h4, h5⟩
 ·rintro ⟨h1, h2, h3, h4, h5⟩; exact ⟨h1, h2, by omega, h4, h5⟩
theorem jm {x : TStore} {k : Nat} (h : k < x.fFiles.length) : cY x k = true ↔ ck x.fSchema x.fFiles[k] = true ∧ x.fFiles[k].fID < x.fNextID ∧ tP x.fFiles k = true := by
 unfold cY
 rw [List.getElem?_eq_getElem h]
 simp only [Bool.and_eq_true, Bool.not_eq_true', decide_eq_false_iff_not, Int.not_le]
def mkF (s : TStore) (f : TFile) : TFile := { f with fID := s.fNextID }
def DF (s : TStore) (f : TFile) : Bool := bf s && (decide (s.fFiles.length < 12) && ck s.fSchema (mkF s f))
def Gg (s : TStore) (f : TFile) : TStore := if DF s f then ⟨s.fSchema, s.fFiles ++ [mkF s f], s.fNextID + 1⟩ else s
def Gi (s : TStore) (f : TFile) : Int := if DF s f then s.fNextID else 0
end Go.Proofs.YtddimbdeggomaaaGreat
end
section
namespace Go.Proofs.YtddimbdeggomaaaGreat
open Go Go.Sx Go.RowKit Go.Proofs
def ixF (id : Int) (l : List TFile) : Int := bp (fun f => decide (f.fID = id)) l 0
theorem ixF_cases (id : Int) (l : List TFile) : (ixF id l = -1) ∨ ∃ p : Nat, ixF id l = p ∧ ∃ h : p < l.length, l[p].fID = id := by
 rcases idxP_spec (fun f : TFile => decide (f.fID = id)) l 0 with h | ⟨k, e1, e2, e5, e6⟩
 ·exact .inl h.1
 ·exact .inr ⟨k, by unfold ixF; rw [e1]; simp, e2, by simpa using e5⟩
def zF : TFile := ⟨0, 0, false, 0, []⟩
def aZ (id : Int) (l : List TFile) : TFile := if 0 ≤ ixF id l then l.getD (ixF id l).toNat zF else zF
theorem qF {id : Int} {l : List TFile} (h : ixF id l = -1) : aZ id l = zF := by unfold aZ; rw [h]; rfl
theorem nv {id : Int} {l : List TFile} {p : Nat} (h : ixF id l = p) (hp : p < l.length) : aZ id l = l[p] := by unfold aZ; rw [h, if_pos (by omega)]; simp [hp]
theorem kH (id : Int) (l : List TFile) : wFile (aZ id l) ≤ aT l := by
 rcases ixF_cases id l with h | ⟨p, h, hp, _⟩
 ·rw [qF h]; simp [zF, wFile, bg, wsum]
 ·rw [nv h hp]; have := aB wFile l hp; unfold aT; omega
def Fk {α : Type} (p : Nat) (l : List α) : List α := l.take p ++ l.drop (p + 1)
theorem DE {α : Type} (f : α → Nat) (y : α) : ∀ (p : Nat) (l : List α), wsum f (l.set p y) ≤ wsum f l + f y
 | _, [] => by simp [wsum]
 | 0, x :: l => by simp only [List.set_cons_zero, wsum]; omega
 | p + 1, x :: l => by
  have ih := DE f y p l
  simp only [List.set_cons_succ, wsum]
  omega
theorem xy {s : TStore} (h : bf s = true) (j : Nat) (h0 : 0 < j) (hj : j < s.fFiles.length) : s.fFiles[j - 1].fID < s.fFiles[j].fID := by
 have q := ((jm hj).1 ((ki.1 h).1 j hj)).2.2
 rw [mz _ _ h0 hj] at q
 simp only [Bool.not_eq_true', decide_eq_false_iff_not] at q
 omega
theorem Do (l : List TFile) (k : Nat) (hk : k < l.length) (h : ∀ h0 : 0 < k, (l[k - 1]'(by omega)).fID < l[k].fID) : tP l k = true := by
 by_cases h0 : 0 < k
 ·rw [mz _ _ h0 hk]
  have := h h0
  simp only [Bool.not_eq_true', decide_eq_false_iff_not]
  omega
 ·exact xu _ _ h0
def Fl (s : TStore) (id : Int) : Bool := bf s && decide (0 ≤ ixF id s.fFiles)
def Gf (s : TStore) (id : Int) : TStore := if Fl s id then ⟨s.fSchema, Fk (ixF id s.fFiles).toNat s.fFiles, s.fNextID⟩ else s
def dB (s : TStore) (f : TFile) : Bool := bf s && (decide (0 ≤ ixF f.fID s.fFiles) && ck s.fSchema f)
def iM (s : TStore) (f : TFile) : TStore := if dB s f then ⟨s.fSchema, s.fFiles.set (ixF f.fID s.fFiles).toNat f, s.fNextID⟩ else s
theorem Ab {s : TStore} {f : TFile} : dB s f = true ↔ bf s = true ∧ 0 ≤ ixF f.fID s.fFiles ∧ ck s.fSchema f = true := by
 unfold dB; simp only [Bool.and_eq_true, decide_eq_true_eq]
theorem Eo {s : TStore} {f : TFile} (h : dB s f = true) : bf (iM s f) = true := by
 obtain ⟨hs, hi, hf⟩ := Ab.1 h
 obtain ⟨h1, h2, h3, h4, h5⟩ := ki.1 hs
 rcases ixF_cases f.fID s.fFiles with e | ⟨p, e, hp, hid⟩
 ·omega
 unfold iM
 rw [if_pos h, e, Int.toNat_natCast]
 have key : ∀ j (hj : j < (s.fFiles.set p f).length), (s.fFiles.set p f)[j].fID = (s.fFiles[j]'(by simpa using hj)).fID := by
  intro j hj
  rw [List.getElem_set]
  split
  ·rename_i ej; subst ej; exact hid.symm
  ·rfl
 refine ki.2 ⟨fun k hk => ?_, h2, by simpa using h3, h4, h5⟩
 rw [jm hk]
 simp only at hk ⊢
 have hk' : k < s.fFiles.length := by simpa using hk
 obtain ⟨q1, q2, q3⟩ := (jm hk').1 (h1 k hk')
 refine ⟨?_, by rw [key k hk]; exact q2, Do _ _ hk fun h0 => ?_⟩
 ·rw [List.getElem_set]
  split
  ·exact hf
  ·exact q1
 ·rw [key k hk, key (k - 1) (by omega)]
  exact xy hs k h0 hk'
theorem xz (s : TStore) (f : TFile) : al (iM s f) ≤ al s + wFile f := by
 unfold iM
 split
 ·have h := DE wFile f (ixF f.fID s.fFiles).toNat s.fFiles
  unfold al aT; simp only [List.length_set]; omega
 ·omega
end Go.Proofs.YtddimbdeggomaaaGreat
end
section
set_option maxRecDepth 100000
set_option maxHeartbeats 4000000
namespace Go.Proofs.YtddimbdeggomaaaGreat
open Go Go.Sx Go.RowKit Go.Proofs
theorem xx (id : Int) (x : TFile) : FnC Tryz.prog 257 [a8 x, .o (.q [iv id])] (ob (decide (x.fID = id))) := by
 refine ent Tryz.func257 rfl Tryz.call257 rfl (fun C => ?_); simp only [go_sem, st0, Tryz.ntmps257]
 refine af ?_
 exact aa ⟨⟨_, rfl, by simp only [go_sem]⟩, trivial⟩
theorem nu (s : TStore) (id : Int) (hl : s.fFiles.length ≤ 4300000) : FnC Tryz.prog 190 [bV s, oi id] (oi (ixF id s.fFiles)) := by
 refine ent Tryz.func190 rfl Tryz.call190 rfl (fun C => ?_); simp only [go_sem, st0, Tryz.ntmps190]
 refine cH (nc _ _ (fun x => decide (x.fID = id)) s.fFiles (fun y _ => xx id y) (by omega)) ?_
 exact aa ⟨⟨_, rfl, by simp only [go_sem, ixF]⟩, trivial⟩
theorem kh (s : TStore) (id : Int) (hl : s.fFiles.length ≤ 4300000) : FnC Tryz.prog 189 [bV s, oi id] (oi (ixF id s.fFiles)) := by
 refine ent Tryz.func189 rfl Tryz.call189 rfl (fun C => ?_); simp only [go_sem, st0, Tryz.ntmps189]
 refine af ?_
 refine ak (α := Nat) (fun k => [(5, oi k)]) (fun _ => []) (fun k => k ≤ s.fFiles.length ∧ ixF id s.fFiles = bp (fun f => decide (f.fID = id)) (s.fFiles.drop k) k) (fun k => s.fFiles.length - k) 0 (fun _ => ?_) ?_ ?_ (fun k hk => ?_)
 ·simp only [go_sem]
 ·simp only [go_sem]; simp
 ·simp [ixF]
 ·obtain ⟨hk, hq⟩ := hk
  simp only [go_sem]
  refine af ?_
  refine cnd rfl (fun h => ?_) (fun h => ?_)
  ·simp only [decide_eq_true_eq, Int.ofNat_lt] at h
   have hd := List.drop_eq_getElem_cons h
   rw [hd, bp] at hq
   by_cases h2 : s.fFiles[k].fID = id
   ·rw [if_pos (by simp [h2])] at hq
    have q0 := @h; have q1 := @h2; have q2 := @decide_true; refine fF ?_
    exact aa ⟨⟨_, rfl, by simp only [go_sem, hq]⟩, trivial⟩
   ·rw [if_neg (by simp [h2])] at hq
    have q0 := @h; have q1 := @h2; have q2 := @decide_false; refine fF ?_
    refine ae (k + 1) ?_ ?_ ?_
    ·simp only [go_sem]; simp
    ·rw [hq]; exact ⟨h, by simp⟩
    ·omega
  ·simp only [decide_eq_false_iff_not] at h
   have e : k = s.fFiles.length := by omega
   subst e
   simp only [List.drop_length, bp] at hq
   refine af ?_
   exact aa ⟨⟨_, rfl, by simp only [go_sem, hq]⟩, trivial⟩
theorem wa (s : TStore) (id : Int) (h : al s ≤ 4300000) : FnC Tryz.prog 125 [bV s, oi id] (.t [(true, (nT (aZ id s.fFiles)).cells), (false, [.d (bv (decide (0 ≤ ixF id s.fFiles)))])]) := by
 have hl : s.fFiles.length ≤ 4300000 := by unfold al aT at h; omega
 refine ent Tryz.func125 rfl Tryz.call125 rfl (fun C => ?_); simp only [go_sem, st0, Tryz.ntmps125]
 rcases ixF_cases id s.fFiles with e | ⟨p, e, hp, _⟩
 ·have e1 := qF e
  have hz : ¬ (0 : Int) ≤ -1 := by omega
  have hk := nu s id hl
  rw [e] at hk
  have q0 := @hz; have q1 := @decide_false; refine fZ hk ?_
  exact aa ⟨⟨_, rfl, by simp only [go_sem, e, e1, hz, decide_false, zF, List.map_nil]; try simp⟩, by simp [aE]⟩
 ·have e1 := nv e hp
  have hz : (0 : Int) ≤ (p : Int) := by omega
  have hw := aB wFile s.fFiles hp
  have hx : s.fFiles[p].fAttrs.length ≤ 4300000 := by
   have e : s.fFiles[p].fAttrs.length ≤ wFile s.fFiles[p] := by unfold wFile bg; omega
   unfold al aT at h; omega
  have hk := nu s id hl
  rw [e] at hk
  have q0 := @hz; have q1 := @hp; have q2 := @decide_true; have q3 := @Int.toNat_natCast; refine mY hk (na s.fFiles[p] hx) ?_
  exact aa ⟨⟨_, rfl, by simp only [go_sem, e, e1, hz, decide_true]; try simp⟩, by simp [aE]⟩
theorem wb (s : TStore) (id : Int) (h : al s ≤ 4300000) : FnC Tryz.prog 123 [bV s, oi id] (.t [(true, (nT (aZ id s.fFiles)).cells), (false, [.d (bv (decide (0 ≤ ixF id s.fFiles)))])]) := by
 have hl : s.fFiles.length ≤ 4300000 := by unfold al aT at h; omega
 refine ent Tryz.func123 rfl Tryz.call123 rfl (fun C => ?_); simp only [go_sem, st0, Tryz.ntmps123]
 rcases ixF_cases id s.fFiles with e | ⟨p, e, hp, _⟩
 ·have e1 := qF e
  have hz : ¬ (0 : Int) ≤ -1 := by omega
  have hy : (-1 : Int) < 0 := by omega
  have hk := kh s id hl
  rw [e] at hk
  have q0 := @hy; have q1 := @decide_true; refine fZ hk ?_
  exact aa ⟨⟨_, rfl, by simp only [go_sem, e, e1, hz, decide_false, zF, List.map_nil]; try simp⟩, by simp [aE]⟩
 ·have e1 := nv e hp
  have hz : (0 : Int) ≤ (p : Int) := by omega
  have hy : ¬ (p : Int) < 0 := by omega
  have hw := aB wFile s.fFiles hp
  have hx : s.fFiles[p].fAttrs.length ≤ 4300000 := by
   have e : s.fFiles[p].fAttrs.length ≤ wFile s.fFiles[p] := by unfold wFile bg; omega
   unfold al aT at h; omega
  have hk := kh s id hl
  rw [e] at hk
  have q0 := @hy; have q1 := @hp; have q2 := @decide_false; have q3 := @Int.toNat_natCast; refine mY hk (ql s.fFiles[p] hx) ?_
  exact aa ⟨⟨_, rfl, by simp only [go_sem, e, e1, hz, decide_true]; try simp⟩, by simp [aE]⟩
theorem gQ (s : TStore) (f : TFile) (hs : al s ≤ 4300000) (hf : wFile f ≤ 4300000) : FnC Tryz.prog 130 [bV s, a8 f] (.t [(true, (pS (iM s f)).cells), (false, [.d (bv (dB s f))])]) := by
 have h1 : aj s.fSchema ≤ 4300000 := by unfold al at hs; omega
 have h2 : s.fFiles.length ≤ 4300000 := by unfold al aT at hs; omega
 have h3 : f.fAttrs.length ≤ 4300000 := by unfold wFile bg at hf; omega
 have hk := nu s f.fID h2
 refine ent Tryz.func130 rfl Tryz.call130 rfl (fun C => ?_); simp only [go_sem, st0, Tryz.ntmps130]
 cases hv : bf s
 ·have e : dB s f = false := by simp [dB, hv]
  have q0 := @hv; refine EZ (fI s hs) hk (ez s hs) ?_
  exact aa ⟨⟨_, rfl, by simp only [go_sem, iM, e]; try simp⟩, by simp [aE]⟩
 rcases ixF_cases f.fID s.fFiles with ei | ⟨p, ei, hp, _⟩
 ·have e : dB s f = false := by simp [dB, ei]
  have hy : (-1 : Int) < 0 := by omega
  rw [ei] at hk
  have q0 := @hv; have q1 := @hy; have q2 := @decide_true; refine CO (fI s hs) hk (ez s hs) ?_
  exact aa ⟨⟨_, rfl, by simp only [go_sem, iM, e]; try simp⟩, by simp [aE]⟩
 have hy : ¬ (p : Int) < 0 := by omega
 rw [ei] at hk
 cases ho : ck s.fSchema f
 ·have e : dB s f = false := by simp [dB, ho]
  have q0 := @hv; have q1 := @hy; have q2 := @ho; have q3 := @decide_false; refine CQ (fI s hs) hk (ez s hs) (dA s.fSchema f h1 hf) ?_
  exact aa ⟨⟨_, rfl, by simp only [go_sem, iM, e]; try simp⟩, by simp [aE]⟩
 ·have e : dB s f = true := by simp [dB, hv, ei, ho]
  have qH := aI @hv (aI @hy (aI @ho (aI @hp (aI @decide_false (aI @Int.toNat_natCast @CN))))); repeat' (with_reducible first | refine nY ?_ | (refine mX ?_; try simp only [go_sem, qH]) | refine kD ?_ | (apply rE [4,6] [] [0,1,2,3] [0,1,2,3] ((.c 4 [5] [0,1,2,5] (.c 6 [] [] .n .n) .n)) (by simp only [go_sem]; rfl) (by simp only [go_sem]; rfl) (by simp only [go_sem]; rfl) (by decide +kernel); (focus simp only [go_sem]; done)) | exact cJ | refine ca (uX ?_) ?_ | refine cd (aX ?_) ?_ | refine ce (aX ?_) ?_ | exact b9 | exact oH | exact uB | refine rD ?_ | refine cP (fI s hs) ?_ | refine cP hk ?_ | refine cP (ez s hs) ?_ | refine cP (dA s.fSchema f h1 hf) ?_ | refine cP (na f h3) ?_ | refine aO ?_ | fail)
  exact aa ⟨⟨_, rfl, by simp only [go_sem, iM, e, ei, Int.toNat_natCast, if_true, List.map_set]; try simp [aR]⟩, by simp [aE]⟩
theorem qE (s : TStore) (f : TFile) (hs : al s ≤ 4300000) (hf : wFile f ≤ 4300000) : FnC Tryz.prog 128 [bV s, a8 f] (.t [(true, (pS (iM s f)).cells), (false, [.d (bv (dB s f))])]) := by
 have h1 : aj s.fSchema ≤ 4300000 := by unfold al at hs; omega
 have h2 : s.fFiles.length ≤ 4300000 := by unfold al aT at hs; omega
 have h3 : f.fAttrs.length ≤ 4300000 := by unfold wFile bg at hf; omega
 have hk := kh s f.fID h2
 refine ent Tryz.func128 rfl Tryz.call128 rfl (fun C => ?_); simp only [go_sem, st0, Tryz.ntmps128]
 cases hv : bf s
 ·have e : dB s f = false := by simp [dB, hv]
  have qH := @hv; repeat' (with_reducible first | refine nY ?_ | (refine mX ?_; try simp only [go_sem, qH]) | refine kD ?_ | refine rD ?_ | refine cP (j6 s hs) ?_ | refine vR hk ?_ | refine vD hk ?_ | refine vR (bR s hs) ?_ | refine vD (bR s hs) ?_ | refine aO ?_ | fail)
  exact aa ⟨⟨_, rfl, by simp only [go_sem, iM, e]; try simp⟩, by simp [aE]⟩
 rcases ixF_cases f.fID s.fFiles with ei | ⟨p, ei, hp, _⟩
 ·have e : dB s f = false := by simp [dB, ei]
  have hy : (-1 : Int) < 0 := by omega
  rw [ei] at hk
  have qH := aI @hv (aI @hy @decide_true); repeat' (with_reducible first | refine nY ?_ | (refine mX ?_; try simp only [go_sem, qH]) | refine kD ?_ | refine rD ?_ | refine cP (j6 s hs) ?_ | refine vR hk ?_ | refine vD hk ?_ | refine vR (bR s hs) ?_ | refine vD (bR s hs) ?_ | refine aO ?_ | fail)
  exact aa ⟨⟨_, rfl, by simp only [go_sem, iM, e]; try simp⟩, by simp [aE]⟩
 have hy : ¬ (p : Int) < 0 := by omega
 rw [ei] at hk
 cases ho : ck s.fSchema f
 ·have e : dB s f = false := by simp [dB, ho]
  have qH := aI @hv (aI @hy (aI @ho @decide_false)); repeat' (with_reducible first | refine nY ?_ | (refine mX ?_; try simp only [go_sem, qH]) | refine kD ?_ | refine rD ?_ | refine cP (j6 s hs) ?_ | refine vR hk ?_ | refine vD hk ?_ | refine vR (bR s hs) ?_ | refine vD (bR s hs) ?_ | refine vR (cz s.fSchema f h1 hf) ?_ | refine vD (cz s.fSchema f h1 hf) ?_ | refine aO ?_ | fail)
  exact aa ⟨⟨_, rfl, by simp only [go_sem, iM, e]; try simp⟩, by simp [aE]⟩
 ·have e : dB s f = true := by simp [dB, hv, ei, ho]
  have qH := aI @hv (aI @hy (aI @ho (aI @hp (aI @decide_false (aI @Int.toNat_natCast @CN))))); repeat' (with_reducible first | refine nY ?_ | (refine mX ?_; try simp only [go_sem, qH]) | refine kD ?_ | (apply rE [4,6] [] [0,1,2,3] [0,1,2,3] ((.c 4 [5] [0,1,2,5] (.c 6 [] [] .n .n) .n)) (by simp only [go_sem]; rfl) (by simp only [go_sem]; rfl) (by simp only [go_sem]; rfl) (by decide +kernel); (focus simp only [go_sem]; done)) | exact cJ | refine ca (uX ?_) ?_ | refine cd (aX ?_) ?_ | refine ce (aX ?_) ?_ | exact b9 | exact oH | exact uB | refine rD ?_ | refine cP (j6 s hs) ?_ | refine vR hk ?_ | refine vG hk ?_ | refine vR (bR s hs) ?_ | refine vG (bR s hs) ?_ | refine vR (cz s.fSchema f h1 hf) ?_ | refine vG (cz s.fSchema f h1 hf) ?_ | refine cP (ql f h3) ?_ | refine aO ?_ | fail)
  exact aa ⟨⟨_, rfl, by simp only [go_sem, iM, e, ei, Int.toNat_natCast, if_true, List.map_set]; try simp [aR]⟩, by simp [aE]⟩
end Go.Proofs.YtddimbdeggomaaaGreat
end
section
namespace Go.Sx.Clos
section
variable {β : Type} [DecidableEq β]
def Closed (E : List (β × List β)) (S : List β) : Prop := ∀ e ∈ E, (∃ x ∈ e.2, x ∈ S) → e.1 ∈ S
def wsm (w : β → Nat) : List β → Nat
 | [] => 0
 | x :: l => w x + wsm w l
def ea (w : β → Nat) : List (β × List β) → List β → Nat
 | [], _ => 0
 | e :: E, S => (if e.1 ∈ S then 0 else w e.1) + ea w E S
theorem od (w : β → Nat) (E : List (β × List β)) {S T : List β} (h : ∀ x ∈ S, x ∈ T) : ea w E T ≤ ea w E S := by
 induction E with
 | nil => simp [ea]
 | cons e E ih =>
  simp only [ea]
  by_cases h1 : e.1 ∈ S
  ·have h2 := h _ h1; simp [h1, h2]; exact ih
  ·by_cases h2 : e.1 ∈ T
   ·simp [h1, h2]; omega
   ·simp [h1, h2]; exact ih
theorem nw (w : β → Nat) (E : List (β × List β)) {S T : List β} (h : ∀ x ∈ S, x ∈ T) {y : β} (hy : ∃ e ∈ E, e.1 = y) (h1 : y ∈ T) (h2 : ¬ y ∈ S) : ea w E T + w y ≤ ea w E S := by
 induction E with
 | nil => obtain ⟨e, he, _⟩ := hy; simp at he
 | cons e E ih =>
  obtain ⟨e', he', rfl⟩ := hy
  rcases List.mem_cons.1 he' with rfl | hm
  ·have := od w E h
   simp only [ea]
   simp [h1, h2]; omega
  ·have := ih ⟨e', hm, rfl⟩
   simp only [ea]
   by_cases h3 : e.1 ∈ S
   ·have h4 := h _ h3; simp [h3, h4]; exact this
   ·by_cases h4 : e.1 ∈ T
    ·simp [h3, h4]; omega
    ·simp [h3, h4]; omega
theorem Ak (E : List (β × List β)) (S : List β) : ea (fun _ => 1) E S ≤ E.length := by
 induction E with
 | nil => simp [ea]
 | cons e E ih => simp only [ea, List.length_cons]; split <;> omega
variable (put : List β → β → List β)
def askC (name : β) (out asks : List β) : List β := asks.foldl (fun o a => if a ∈ o then put o name else o) out
def round (E : List (β × List β)) (S : List β) : List β := E.foldl (fun o e => askC put e.1 o e.2) S
def dK (E : List (β × List β)) : Nat → List β → List β
 | 0, S => S
 | n + 1, S => round put E (dK E n S)
variable {put} (hput : ∀ l s x, x ∈ put l s ↔ x = s ∨ x ∈ l)
include hput
theorem mH (name : β) (asks : List β) : ∀ (out : List β) (x : β), x ∈ askC put name out asks ↔ x ∈ out ∨ (x = name ∧ ∃ a ∈ asks, a ∈ out) := by
 induction asks with
 | nil => intro out x; simp [askC]
 | cons a asks ih =>
  intro out x
  have ih' := ih (if a ∈ out then put out name else out) x
  unfold askC at *
  rw [List.foldl_cons, ih']
  by_cases h : a ∈ out
  ·simp only [h, if_true, hput]
   constructor
   ·rintro ((rfl | h1) | ⟨rfl, _⟩)
    ·exact .inr ⟨rfl, a, List.mem_cons_self, h⟩
    ·exact .inl h1
    ·exact .inr ⟨rfl, a, List.mem_cons_self, h⟩
   ·rintro (h1 | ⟨rfl, _⟩)
    ·exact .inl (.inr h1)
    ·exact .inl (.inl rfl)
  ·simp only [h, if_false]
   constructor
   ·rintro (h1 | ⟨rfl, b, hb, h2⟩)
    ·exact .inl h1
    ·exact .inr ⟨rfl, b, List.mem_cons_of_mem _ hb, h2⟩
   ·rintro (h1 | ⟨rfl, b, hb, h2⟩)
    ·exact .inl h1
    ·rcases List.mem_cons.1 hb with rfl | hb
     ·exact absurd h2 h
     ·exact .inr ⟨rfl, b, hb, h2⟩
theorem kI (E : List (β × List β)) : ∀ (S : List β), ∀ x ∈ S, x ∈ round put E S := by
 induction E with
 | nil => intro S x h; exact h
 | cons e E ih =>
  intro S x h
  exact ih _ x ((mH hput e.1 e.2 S x).2 (.inl h))
theorem oe (E : List (β × List β)) {T : List β} (hT : Closed E T) : ∀ (S : List β), (∀ x ∈ S, x ∈ T) → ∀ x ∈ round put E S, x ∈ T := by
 induction E with
 | nil => intro S h; exact h
 | cons e E ih =>
  intro S h
  refine ih (fun e' he' => hT e' (List.mem_cons_of_mem _ he')) _ (fun x hx => ?_)
  rcases (mH hput e.1 e.2 S x).1 hx with h1 | ⟨rfl, a, ha, h2⟩
  ·exact h x h1
  ·exact hT e List.mem_cons_self ⟨a, ha, h a h2⟩
theorem xK (E : List (β × List β)) : ∀ (S : List β) (e : β × List β), e ∈ E → (∃ x ∈ e.2, x ∈ S) → e.1 ∈ round put E S := by
 induction E with
 | nil => intro S e he; simp at he
 | cons e0 E ih =>
  intro S e he h
  rcases List.mem_cons.1 he with rfl | he
  ·exact kI hput E _ _ ((mH hput e.1 e.2 S e.1).2 (.inr ⟨rfl, h⟩))
  ·obtain ⟨x, hx, hs⟩ := h
   exact ih _ e he ⟨x, hx, (mH hput e0.1 e0.2 S x).2 (.inl hs)⟩
theorem round_new (E : List (β × List β)) : ∀ (S : List β) (x : β), x ∈ round put E S → x ∈ S ∨ ∃ e ∈ E, e.1 = x := by
 induction E with
 | nil => intro S x h; exact .inl h
 | cons e E ih =>
  intro S x h
  rcases ih _ x h with h | ⟨e', he', rfl⟩
  ·rcases (mH hput e.1 e.2 S x).1 h with h | ⟨rfl, _⟩
   ·exact .inl h
   ·exact .inr ⟨e, List.mem_cons_self, rfl⟩
  ·exact .inr ⟨e', List.mem_cons_of_mem _ he', rfl⟩
theorem qI (E : List (β × List β)) (S : List β) : ∀ (n : Nat), ∀ x ∈ S, x ∈ dK put E n S
 | 0, x, h => h
 | n + 1, x, h => kI hput E _ x (qI E S n x h)
theorem mI (E : List (β × List β)) {S T : List β} (hT : Closed E T) (h : ∀ x ∈ S, x ∈ T) : ∀ (n : Nat), ∀ x ∈ dK put E n S, x ∈ T
 | 0, x, hx => h x hx
 | n + 1, x, hx => oe hput E hT _ (mI E hT h n) x hx
theorem rounds_count (E : List (β × List β)) (S : List β) : ∀ (n : Nat), Closed E (dK put E n S) ∨ ea (fun _ => 1) E (dK put E n S) + n ≤ E.length
 | 0 => .inr (by simpa [dK] using Ak E S)
 | n + 1 => by
  rcases rounds_count E S n with h | h
  ·refine .inl (fun e he hx => ?_)
   obtain ⟨x, hx, hs⟩ := hx
   have hs' := oe hput E h _ (fun y hy => hy) x hs
   exact kI hput E _ _ (h e he ⟨x, hx, hs'⟩)
  ·by_cases hc : Closed E (dK put E (n + 1) S)
   ·exact .inl hc
   ·refine .inr ?_
    have hn : ∃ y, y ∈ round put E (dK put E n S) ∧ ¬ y ∈ dK put E n S := Classical.byContradiction fun hno => hc (fun e he hx => by
     obtain ⟨x, hx, hs⟩ := hx
     have hs' : x ∈ dK put E n S := Classical.byContradiction fun h' => hno ⟨x, hs, h'⟩
     exact xK hput E _ e he ⟨x, hx, hs'⟩)
    obtain ⟨y, h1, h2⟩ := hn
    have hy : ∃ e ∈ E, e.1 = y := by
     rcases round_new hput E _ y h1 with h | h
     ·exact absurd h h2
     ·exact h
    have := nw (fun _ => 1) E (kI hput E (dK put E n S)) hy h1 h2
    simp only [dK]
    omega
omit hput in
theorem yK {P : List β → Prop} {Nm : β → Prop} (hP : ∀ o n, P o → Nm n → P (put o n)) (name : β) (hn : Nm name) (asks : List β) : ∀ out, P out → P (askC put name out asks) := by
 induction asks with
 | nil => intro out h; exact h
 | cons a asks ih =>
  intro out h
  unfold askC at *
  rw [List.foldl_cons]
  refine ih _ ?_
  split
  ·exact hP _ _ h hn
  ·exact h
omit hput in
theorem sG {P : List β → Prop} {Nm : β → Prop} (hP : ∀ o n, P o → Nm n → P (put o n)) (E : List (β × List β)) : (∀ e ∈ E, Nm e.1) → ∀ S, P S → P (round put E S) := by
 induction E with
 | nil => intro _ S h; exact h
 | cons e E ih => intro hn S h; exact ih (fun e he => hn e (List.mem_cons_of_mem _ he)) _ (yK hP e.1 (hn e List.mem_cons_self) e.2 S h)
omit hput in
theorem qJ {P : List β → Prop} {Nm : β → Prop} (hP : ∀ o n, P o → Nm n → P (put o n)) (E : List (β × List β)) (hn : ∀ e ∈ E, Nm e.1) {S : List β} (h : P S) : ∀ n, P (dK put E n S)
 | 0 => h
 | n + 1 => sG hP E hn _ (qJ hP E hn h n)
theorem rv (E : List (β × List β)) (S : List β) : Closed E (dK put E (E.length + 1) S) := by
 rcases rounds_count hput E S (E.length + 1) with h | h
 ·exact h
 ·omega
theorem wj (E : List (β × List β)) {S O : List β} (h1 : ∀ x ∈ S, x ∈ O) (h2 : Closed E O) (h3 : ∀ T : List β, Closed E T → (∀ x ∈ S, x ∈ T) → ∀ x ∈ O, x ∈ T) (x : β) : x ∈ O ↔ x ∈ dK put E (E.length + 1) S :=
 ⟨fun h => h3 _ (rv hput E S) (qI hput E S _) x h, fun h => mI hput E h2 h1 _ x h⟩
omit hput
theorem kj {lt : β → β → Prop} (hi : ∀ x, ¬ lt x x) (ht : ∀ x y z, lt x y → lt y z → lt x z) : ∀ {l m : List β}, l.Pairwise lt → m.Pairwise lt → (∀ x, x ∈ l ↔ x ∈ m) → l = m
 | [], [], _, _, _ => rfl
 | [], b :: m, _, _, h => by have := (h b).2 List.mem_cons_self; simp at this
 | a :: l, [], _, _, h => by have := (h a).1 List.mem_cons_self; simp at this
 | a :: l, b :: m, h1, h2, h => by
  rw [List.pairwise_cons] at h1 h2
  have hab : a = b := by
   rcases List.mem_cons.1 ((h a).1 List.mem_cons_self) with e | e
   ·exact e
   ·rcases List.mem_cons.1 ((h b).2 List.mem_cons_self) with e' | e'
    ·exact e'.symm
    ·exact absurd (ht _ _ _ (h1.1 b e') (h2.1 a e)) (hi a)
  subst hab
  congr 1
  refine kj hi ht h1.2 h2.2 (fun x => ⟨fun hx => ?_, fun hx => ?_⟩)
  ·rcases List.mem_cons.1 ((h x).1 (List.mem_cons_of_mem _ hx)) with e | e
   ·subst e; exact absurd (h1.1 x hx) (hi x)
   ·exact e
  ·rcases List.mem_cons.1 ((h x).2 (List.mem_cons_of_mem _ hx)) with e | e
   ·subst e; exact absurd (h2.1 x hx) (hi x)
   ·exact e
end
end Go.Sx.Clos
namespace Go.Proofs.YtddimbdeggomaaaGreat
open Go Go.Sx Go.RowKit Go.Proofs
theorem Et {x y : ByteArray} (h : bl x = bl y) : x = y := by rw [← vT x, ← vT y, h]
def ltS (x y : ByteArray) : Prop := bl x < bl y
theorem sH (x y : ByteArray) : dL x y = true ↔ ltS x y := by
 unfold dL ltS bl
 rw [Go.Proofs.bytesLess_eq, decide_eq_true_eq, ByteArray.toList_eq, ByteArray.toList_eq]
theorem qK (x : ByteArray) : ¬ ltS x x := List.lt_irrefl (bl x)
theorem nz (x y z : ByteArray) (h : ltS x y) (k : ltS y z) : ltS x z := List.lt_trans h k
theorem BZ {x y : List UInt8} (h : x ≤ y) (k : x ≠ y) : x < y := Classical.byContradiction fun hn => k (List.le_antisymm h (List.not_lt.1 hn))
theorem Ds {x y : ByteArray} (h : ¬ ltS x y) (k : x ≠ y) : ltS y x := BZ (List.not_lt.1 h) fun e => k (Et e).symm
theorem Al (y s : ByteArray) (l : List ByteArray) : putS (y :: l) s = if dL y s then y :: putS l s else if y = s then y :: l else s :: y :: l := by
 unfold putS
 cases h : dL y s with
 | true =>
  have hg : geS s y = false := by simp [geS, h]
  simp only [bZ, hg, Bool.false_eq_true, if_false, List.drop_succ_cons, if_true]
  split
  ·rfl
  ·simp [eB]
 | false =>
  have hg : geS s y = true := by simp [geS, h]
  simp only [bZ, hg, if_true, List.drop_zero, List.head?_cons, Bool.false_eq_true, if_false, Option.some.injEq]
  split
  ·rfl
  ·simp [eB]
theorem g6 (s : ByteArray) : ∀ {l : List ByteArray}, l.Pairwise ltS → (putS l s).Pairwise ltS
 | [], _ => by simp [putS, bZ, eB]
 | y :: l, h => by
  rw [Al]
  rw [List.pairwise_cons] at h
  split
  ·rename_i hlt
   rw [List.pairwise_cons]
   refine ⟨fun x hx => ?_, g6 s h.2⟩
   rcases (iJ l s x).1 hx with rfl | hx
   ·exact (sH _ _).1 hlt
   ·exact h.1 x hx
  ·rename_i hlt
   split
   ·exact List.pairwise_cons.2 h
   ·rename_i hne
    have hs : ltS s y := Ds (fun hh => hlt ((sH _ _).2 hh)) hne
    refine List.pairwise_cons.2 ⟨fun x hx => ?_, List.pairwise_cons.2 h⟩
    rcases List.mem_cons.1 hx with rfl | hx
    ·exact hs
    ·exact nz _ _ _ hs (h.1 x hx)
theorem t2 (l : List ByteArray) : ∀ {a : List ByteArray}, a.Pairwise ltS → (l.foldl putS a).Pairwise ltS := by
 induction l with
 | nil => intro a h; exact h
 | cons y l ih => intro a h; exact ih (g6 y h)
theorem wk (l : List ByteArray) : (putL l).Pairwise ltS := t2 l List.Pairwise.nil
theorem kZ (d : Array (List UInt8)) (hs : ∀ i j, i < j → j < d.size → d[i]! ≤ d[j]!) : ∀ m, m ≤ d.size → (Lib.compactUpTo d m).Pairwise (fun x y => x < y) ∧ ∀ x ∈ Lib.compactUpTo d m, 0 < m ∧ x ≤ d[m - 1]!
 | 0, _ => by simp [Lib.compactUpTo]
 | m + 1, hm => by
  obtain ⟨h1, h2⟩ := kZ d hs m (by omega)
  rw [Lib.compactUpTo_succ]
  have hup : ∀ x ∈ Lib.compactUpTo d m, x ≤ d[m]! := fun x hx => by
   obtain ⟨h0, h3⟩ := h2 x hx
   exact List.le_trans h3 (hs (m - 1) m (by omega) (by omega))
  refine ⟨?_, fun x hx => ⟨by omega, ?_⟩⟩
  ·cases hk : Lib.keeps d m with
   | false => simpa using h1
   | true =>
    rw [List.pairwise_append]
    refine ⟨h1, by simp, fun x hx y hy => ?_⟩
    simp only [if_true, List.mem_singleton] at hy
    subst hy
    obtain ⟨h0, h3⟩ := h2 x hx
    have hne : d[m]! ≠ d[m - 1]! := fun e => by rw [Lib.keeps_neg h0 e] at hk; cases hk
    have hle := hs (m - 1) m (by omega) (by omega)
    refine BZ (hup x hx) fun e => hne ?_
    rw [e] at h3
    exact List.le_antisymm h3 hle
  ·rcases List.mem_append.1 hx with h | h
   ·exact hup x h
   ·split at h
    ·simp only [List.mem_singleton] at h; subst h; exact List.le_refl _
    ·simp at h
theorem t6 (l : List ByteArray) : (bO l).Pairwise ltS := by
 have e : (iK l).map bl = gn (l.map bl) := by
  unfold iK
  rw [List.map_map]
  have : (bl ∘ lb) = id := by funext x; exact BM x
  rw [this, List.map_id]
 unfold bO sB
 rw [e, List.pairwise_map]
 have hs : (gn (l.map bl)).Pairwise (fun a b => decide (a ≤ b) = true) := by
  refine List.pairwise_mergeSort (le := fun x y : List UInt8 => decide (x ≤ y)) (fun a b c h k => decide_eq_true (List.le_trans (of_decide_eq_true h) (of_decide_eq_true k))) (fun a b => ?_) (l.map bl)
  by_cases h : a ≤ b
  ·simp [h]
  ·have : b ≤ a := List.le_of_lt (List.not_le.1 h)
   simp [this]
 have h := (kZ (gn (l.map bl)).toArray (fun i j hij hj => by
  have hj' : j < (gn (l.map bl)).length := by simpa using hj
  have hi' : i < (gn (l.map bl)).length := by omega
  have := List.pairwise_iff_getElem.1 hs i j hi' hj' hij
  simpa [getElem!_pos, hi', hj'] using of_decide_eq_true this) (gn (l.map bl)).length (by simp)).1
 exact h.imp (fun {x y} h => by show bl (lb x) < bl (lb y); exact h)
end Go.Proofs.YtddimbdeggomaaaGreat
end
section
set_option maxRecDepth 100000
set_option maxHeartbeats 4000000
namespace Go.Proofs.YtddimbdeggomaaaGreat
open Go Go.Sx Go.RowKit Go.Proofs
def isA (n : TNode) : Bool := decide (2 ≤ n.fOp) && decide (n.fOp ≤ 4)
def qA (q : List TNode) : List ByteArray := (q.filter isA).map TNode.fName
theorem qL (q : List TNode) : (qA q).length ≤ q.length := by simp only [qA, List.length_map]; exact List.length_filter_le _ _
theorem yL (q : List TNode) (k : Nat) (h : k < q.length) : qA (q.take (k + 1)) = qA (q.take k) ++ (if isA q[k] then [q[k].fName] else []) := by
 simp only [qA, List.take_succ_eq_append_getElem h, List.filter_append, List.map_append, List.filter_cons, List.filter_nil]
 cases isA q[k] <;> rfl
theorem Am (q : List TNode) (hl : q.length ≤ 4300000) : FnC Tryz.prog 260 [.o (.d (.sl (q.map aw)))] (.o (.w 9 1 ((putL (qA q)).map ba))) := by
 refine ent Tryz.func260 rfl Tryz.call260 rfl (fun C => ?_); simp only [go_sem, st0, Tryz.ntmps260]
 refine af ?_
 refine jj 3 0 rfl rfl ?_
 simp only [go_sem]
 refine ak (α := Nat) (fun k => [(3, .o (.d (.sl ((putL (qA (q.take k))).map ba)))), (4, oi k), (5, .o .u)]) (fun _ => []) (fun k => k ≤ q.length) (fun k => q.length - k) 0 (fun _ => ?_) ?_ ?_ (fun k hk => ?_)
 ·simp only [go_sem]
 ·simp only [go_sem]; simp [qA, putL]
 ·simp
 ·simp only [go_sem]
  refine af ?_
  have hlen : (putL (qA (q.take k))).length ≤ 4300000 := by have h1 := dt (qA (q.take k)); have h2 := qL (q.take k); simp at h2; omega
  refine cnd rfl (fun h1 => ?_) (fun h1 => ?_)
  ·simp only [decide_eq_true_eq, Int.ofNat_lt] at h1
   have ht := yL q k h1
   have q0 := @h1; refine cg (show FnC Tryz.prog _ _ (ob (isA q[k])) from aN q[k].fOp 2 4) ?_
   refine cnd rfl (fun hv => ?_) (fun hv => ?_)
   ·rw [hv] at ht
    simp only [if_true] at ht
    have q0 := @h1; refine cg (gt (putL (qA (q.take k))) q[k].fName hlen) ?_
    refine ae (k + 1) ?_ ?_ ?_
    ·simp only [go_sem, ht, kc]; simp
    ·omega
    ·omega
   ·rw [hv] at ht
    simp only [Bool.false_eq_true, if_false, List.append_nil] at ht
    have q0 := @h1; refine cw ?_
    refine ae (k + 1) ?_ ?_ ?_
    ·simp only [go_sem, ht]; simp
    ·omega
    ·omega
  ·simp only [decide_eq_false_iff_not] at h1
   have e : k = q.length := by omega
   subst e
   rw [List.take_length] at *
   refine af ?_
   exact aa ⟨⟨_, rfl, by simp only [go_sem, List.take_length]⟩, trivial⟩
theorem An (q : List TNode) (hl : q.length ≤ 4300000) : FnC Tryz.prog 262 [.o (.d (.sl (q.map aw)))] (.o (.w 9 1 ((bO (qA q)).map ba))) := by
 refine ent Tryz.func262 rfl Tryz.call262 rfl (fun C => ?_); simp only [go_sem, st0, Tryz.ntmps262]
 refine af ?_
 refine ak (α := Nat) (fun k => [(3, .o (.s 0)), (6, .o .u), (9, oi k)]) (fun k => [(0, .row 9 1 ((qA (q.take k)).map ba) true)]) (fun k => k ≤ q.length) (fun k => q.length - k) 0 (fun _ => ?_) ?_ ?_ (fun k hk => ?_)
 ·simp only [go_sem]
 ·simp only [go_sem]; simp [qA]
 ·simp
 ·simp only [go_sem]
  refine af ?_
  have hlen : (qA (q.take k)).length ≤ 4300000 := by have h2 := qL (q.take k); simp at h2; omega
  refine cnd rfl (fun h1 => ?_) (fun h1 => ?_)
  ·simp only [decide_eq_true_eq, Int.ofNat_lt] at h1
   have ht := yL q k h1
   have hl1 : (qA (q.take k)).length + 1 ≤ 140737488355328 := by omega
   have hl2 : ((qA (q.take k)).length + 1) * 16 ≤ 140737488355328 := by omega
   by_cases c2 : q[k].fOp = 2
   ·rw [if_pos (by simp [isA, c2])] at ht
    have q0 := @h1; have q1 := @c2; have q2 := @decide_true; refine fF ?_
    refine ae (k + 1) ?_ ?_ ?_
    ·simp only [go_sem, ht, List.map_append]; simp
    ·omega
    ·omega
   by_cases c3 : q[k].fOp = 3
   ·rw [if_pos (by simp [isA, c3])] at ht
    have q0 := @h1; have q1 := @c2; have q2 := @c3; have q3 := @decide_true; have q4 := @decide_false; refine re ?_
    refine ae (k + 1) ?_ ?_ ?_
    ·simp only [go_sem, ht, List.map_append]; simp
    ·omega
    ·omega
   by_cases c4 : q[k].fOp = 4
   ·rw [if_pos (by simp [isA, c4])] at ht
    have q0 := @h1; have q1 := @c2; have q2 := @c3; have q3 := @c4; have q4 := @decide_true; have q5 := @decide_false; refine Bd ?_
    refine ae (k + 1) ?_ ?_ ?_
    ·simp only [go_sem, ht, List.map_append]; simp
    ·omega
    ·omega
   ·rw [if_neg (by simp only [isA, Bool.and_eq_true, decide_eq_true_eq]; omega), List.append_nil] at ht
    have q0 := @h1; have q1 := @c2; have q2 := @c3; have q3 := @c4; have q4 := @decide_true; have q5 := @decide_false; refine Bd ?_
    refine ae (k + 1) ?_ ?_ ?_
    ·simp only [go_sem, ht]; simp
    ·omega
    ·omega
  ·simp only [decide_eq_false_iff_not] at h1
   have e : k = q.length := by omega
   subst e
   rw [List.take_length] at *
   refine cH (eH (qA q) hlen) ?_
   exact aa ⟨⟨_, rfl, by simp only [go_sem, List.take_length]⟩, trivial⟩
def gR (q : List TNode) : Bool := q.any fun n => decide (n.fOp = 9)
theorem xL (q : List TNode) (k : Nat) (h : k < q.length) : gR (q.drop k) = (decide (q[k].fOp = 9) || gR (q.drop (k + 1))) := by rw [List.drop_eq_getElem_cons h]; rfl
theorem k6 (q : List TNode) (hl : q.length ≤ 4300000) : FnC Tryz.prog 259 [.o (.d (.sl (q.map aw)))] (ob (gR q)) := by
 refine ent Tryz.func259 rfl Tryz.call259 rfl (fun C => ?_); simp only [go_sem, st0, Tryz.ntmps259]
 refine af ?_
 refine ak (α := Nat) (fun k => [(3, oi k)]) (fun k => []) (fun k => k ≤ q.length ∧ gR (q.drop k) = gR q) (fun k => q.length - k) 0 (fun _ => ?_) ?_ ?_ (fun k hk => ?_)
 ·simp only [go_sem]
 ·simp only [go_sem]; try simp
 ·simp
 ·simp only [go_sem]
  obtain ⟨hk, hg⟩ := hk
  refine af ?_
  refine cnd rfl (fun h1 => ?_) (fun h1 => ?_)
  ·simp only [decide_eq_true_eq, Int.ofNat_lt] at h1
   have hd := xL q k h1
   rw [hg] at hd
   by_cases hv : q[k].fOp = 9
   ·have hd' : gR q = true := by rw [hd, hv]; simp
    have q0 := @h1; have q1 := @hv; have q2 := @decide_true; refine fF ?_
    exact aa ⟨⟨_, rfl, by simp only [go_sem, hd']⟩, trivial⟩
   ·have q0 := @h1; have q1 := @hv; have q2 := @decide_false; refine fF ?_
    refine ae (k + 1) ?_ ?_ ?_
    ·simp only [go_sem]; try simp
    ·exact ⟨by omega, by rw [hd]; simp [hv]⟩
    ·omega
  ·simp only [decide_eq_false_iff_not] at h1
   have e : k = q.length := by omega
   subst e
   have hn : gR q = false := by rw [← hg, List.drop_length]; rfl
   refine af ?_
   exact aa ⟨⟨_, rfl, by simp only [go_sem, hn]⟩, trivial⟩
theorem Dt (attrs : List ByteArray) (s : ByteArray) (hl : attrs.length ≤ 4300000) : FnC Tryz.prog 264 [os s, .o (.q [.sl (attrs.map ba)])] (ob (hasS attrs s)) := by
 refine ent Tryz.func264 rfl Tryz.call264 rfl (fun C => ?_); simp only [go_sem, st0, Tryz.ntmps264]
 refine cH (bQ attrs s hl) ?_
 exact aa ⟨⟨_, rfl, by simp only [go_sem]⟩, trivial⟩
theorem Du (n : TNode) : FnC Tryz.prog 266 [jt n] (ob (decide (n.fOp = 9))) := by
 refine ent Tryz.func266 rfl Tryz.call266 rfl (fun C => ?_); simp only [go_sem, st0, Tryz.ntmps266]
 refine af ?_
 exact aa ⟨⟨_, rfl, by simp only [go_sem]⟩, trivial⟩
theorem mJ (f : Nat) (p : TNode → Bool) (l : List TNode) (hf : ∀ s ∈ l, FnC Tryz.prog f [jt s] (ob (p s))) (hl : l.length ≤ 8388608) : FnC Tryz.prog 300 [.o (.d (.sl (l.map aw))), .o (.f f [])] (oi (bp p l 0)) := by
 refine ent Tryz.func300 rfl Tryz.call300 rfl (fun C => ?_); simp only [go_sem, st0, Tryz.ntmps300]
 refine af ?_
 refine ak (α := Nat) (fun k => [(8, oi k)]) (fun _ => []) (fun k => k ≤ l.length ∧ bp p l 0 = bp p (l.drop k) k) (fun k => l.length - k) 0 (fun _ => ?_) ?_ ?_ (fun k hk => ?_)
 ·simp only [go_sem]
 ·simp only [go_sem]; simp
 ·simp
 ·obtain ⟨hk, hq⟩ := hk
  simp only [go_sem]
  refine af ?_
  refine cnd rfl (fun h => ?_) (fun h => ?_)
  ·simp only [decide_eq_true_eq, Int.ofNat_lt] at h
   have hd := List.drop_eq_getElem_cons h
   rw [hd, bp] at hq
   have q0 := @h; refine cg (hf l[k] (List.getElem_mem h)) ?_
   refine cnd rfl (fun h2 => ?_) (fun h2 => ?_)
   ·refine af ?_
    exact aa ⟨⟨_, rfl, by simp only [go_sem, hq, h2]⟩, trivial⟩
   ·refine af ?_
    refine ae (k + 1) ?_ ?_ ?_
    ·simp only [go_sem]; simp
    ·rw [hq, h2]; exact ⟨h, by simp⟩
    ·omega
  ·simp only [decide_eq_false_iff_not] at h
   have e : k = l.length := by omega
   subst e
   simp only [List.drop_length, bp] at hq
   refine af ?_
   exact aa ⟨⟨_, rfl, by simp only [go_sem, hq]⟩, trivial⟩
theorem kl (f : Nat) (p : TNode → Bool) (l : List TNode) (hf : ∀ s ∈ l, FnC Tryz.prog f [jt s] (ob (p s))) (hl : l.length ≤ 8388608) : FnC Tryz.prog 265 [.o (.d (.sl (l.map aw))), .o (.f f [])] (ob (l.any p)) := by
 refine ent Tryz.func265 rfl Tryz.call265 rfl (fun C => ?_); simp only [go_sem, st0, Tryz.ntmps265]
 refine cH (mJ f p l hf hl) ?_
 exact aa ⟨⟨_, rfl, by simp only [go_sem, jV]⟩, trivial⟩
theorem nA (f : Nat) (c : List D) (p : ByteArray → Bool) (l : List ByteArray) (hf : ∀ s ∈ l, FnC Tryz.prog f [os s, .o (.q c)] (ob (p s))) (hl : l.length ≤ 4300000) : FnC Tryz.prog 263 [.o (.d (.sl (l.map ba))), .o (.f f [c])] (ob (l.any p)) := by
 refine ent Tryz.func263 rfl Tryz.call263 rfl (fun C => ?_); simp only [go_sem, st0, Tryz.ntmps263]
 refine cH (rn f c p l hf hl) ?_
 exact aa ⟨⟨_, rfl, by simp only [go_sem, jV]⟩, trivial⟩
theorem jp (q : List TNode) (hl : q.length ≤ 4300000) : FnC Tryz.prog 262 [.o (.d (.sl (q.map aw)))] (.o (.d (.sl ((bO (qA q)).map ba)))) := (An q hl).pu (by simp only [go_sem, and_self])
theorem qM (q : List TNode) (hl : q.length ≤ 4300000) : FnC Tryz.prog 260 [.o (.d (.sl (q.map aw)))] (.o (.d (.sl ((putL (qA q)).map ba)))) := (Am q hl).pu (by simp only [go_sem, and_self])
theorem oy (a b : TFile) (h : wFile a + wFile b ≤ 4300000) : FnC Tryz.prog 261 [a8 a, a8 b] (.o (.d (.sl ((bO (chg a b)).map ba)))) := (qu a b h).pu (by simp only [go_sem, and_self])
theorem oz (a b : TFile) (h : wFile a + wFile b ≤ 4300000) : FnC Tryz.prog 258 [a8 a, a8 b] (.o (.d (.sl ((putL (chg a b)).map ba)))) := (qv a b h).pu (by simp only [go_sem, and_self])
def Ao (ch qa : List ByteArray) : Bool := qa.any (hasS ch)
theorem B0 (ch qa : List ByteArray) : (bO ch).any (hasS (bO qa)) = Ao ch qa := by
 rw [Bool.eq_iff_iff]
 simp only [Ao, List.any_eq_true, d8, fM]
 constructor <;> rintro ⟨x, h1, h2⟩ <;> exact ⟨x, h2, h1⟩
theorem wl (ch qa : List ByteArray) : (putL qa).any (hasS (putL ch)) = Ao ch qa := by
 rw [Bool.eq_iff_iff]
 simp only [Ao, List.any_eq_true, d8, gb]
def affB (a b : TFile) (d : TDir) : Bool := Ao (chg a b) (qA d.fQuery) || (gR d.fQuery && !decide (a.fLink = b.fLink))
def ic (a b : TFile) (l : List TDir) : List ByteArray := (l.filter (affB a b)).map TDir.fName
def mK (a b : TFile) (l : List TDir) : List ByteArray := if a.fID = b.fID then ic a b l else dirNs l
theorem qN (a b : TFile) (l : List TDir) : (ic a b l).length ≤ l.length := by simp only [ic, List.length_map]; exact List.length_filter_le _ _
theorem nB (a b : TFile) (l : List TDir) (k : Nat) (h : k < l.length) : ic a b (l.take (k + 1)) = ic a b (l.take k) ++ (if affB a b l[k] then [l[k].fName] else []) := by
 simp only [ic, List.take_succ_eq_append_getElem h, List.filter_append, List.map_append, List.filter_cons, List.filter_nil]
 cases affB a b l[k] <;> rfl
theorem wm (l : List TDir) (k : Nat) (h : k < l.length) : l[k].fQuery.length ≤ aA l := by
 have h1 := aB wDir l h
 have h2 : l[k].fQuery.length ≤ wDir l[k] := by unfold wDir bb; omega
 unfold aA
 omega
theorem yM (a b : TFile) (h : wFile a + wFile b ≤ 4300000) : (chg a b).length ≤ 4300000 := by
 have h1 := tQ a b (attrNs a.fAttrs ++ attrNs b.fAttrs)
 rw [List.length_append, dg, dg] at h1
 unfold wFile bg at h
 unfold chg; omega
theorem rx (l : List TDir) (a b : TFile) (h : aA l + (wFile a + wFile b) ≤ 4300000) : FnC Tryz.prog 193 [.o (.d (.sl (l.map ax))), a8 a, a8 b] (.o (.w 9 1 ((mK a b l).map ba))) := by
 have hl : l.length ≤ 4300000 := by unfold aA at h; omega
 have hch := yM a b (by omega)
 refine ent Tryz.func193 rfl Tryz.call193 rfl (fun C => ?_); simp only [go_sem, st0, Tryz.ntmps193]
 by_cases hid : a.fID = b.fID
 case neg =>
  have hid' : decide (a.fID = b.fID) = false := by simp [hid]
  have q0 := @hid'; refine cg (jW l hl) ?_
  exact aa ⟨⟨_, rfl, by simp only [go_sem, mK, hid, if_false]⟩, trivial⟩
 have hid' : decide (a.fID = b.fID) = true := by simp [hid]
 have q0 := @hid'; refine cg (oy a b (by omega)) ?_
 refine ak (α := Nat) (fun k => [(8, .o (.s 2)), (24, .o .u), (27, oi k)]) (fun k => [(2, .row 9 1 ((ic a b (l.take k)).map ba) true)]) (fun k => k ≤ l.length) (fun k => l.length - k) 0 (fun _ => ?_) ?_ ?_ (fun k hk => ?_)
 ·simp only [go_sem]
 ·simp only [go_sem]; simp [ic]
 ·simp
 ·simp only [go_sem]
  refine af ?_
  have hlen : (ic a b (l.take k)).length ≤ 4300000 := by have h2 := qN a b (l.take k); simp at h2; omega
  refine cnd rfl (fun h1 => ?_) (fun h1 => ?_)
  ·simp only [decide_eq_true_eq, Int.ofNat_lt] at h1
   have ht := nB a b l k h1
   have hq := wm l k h1
   have hqa := iI (qA l[k].fQuery)
   have hqb := qL l[k].fQuery
   have hl1 : (ic a b (l.take k)).length + 1 ≤ 140737488355328 := by omega
   have hl2 : ((ic a b (l.take k)).length + 1) * 16 ≤ 140737488355328 := by omega
   have hc := nA 264 [.sl ((bO (qA l[k].fQuery)).map ba)] (hasS (bO (qA l[k].fQuery))) (bO (chg a b)) (fun s _ => Dt _ s (by omega)) (by have := iI (chg a b); omega)
   rw [B0] at hc
   have hn := kl 266 (fun n => decide (n.fOp = 9)) l[k].fQuery (fun n _ => Du n) (by omega)
   have hn : FnC Tryz.prog _ _ (ob (gR l[k].fQuery)) := hn
   cases hh : Ao (chg a b) (qA l[k].fQuery)
   case true =>
    rw [if_pos (by simp [affB, hh])] at ht
    have q0 := @h1; have q1 := @hh; refine D8 (jp l[k].fQuery (by omega)) hc hn ?_
    refine ae (k + 1) ?_ ?_ ?_
    ·simp only [go_sem, ht, List.map_append]; simp
    ·omega
    ·omega
   cases hL : gR l[k].fQuery
   case false =>
    rw [if_neg (by simp [affB, hh, hL]), List.append_nil] at ht
    have q0 := @h1; have q1 := @hh; have q2 := @hL; refine CO (jp l[k].fQuery (by omega)) hc hn ?_
    refine ae (k + 1) ?_ ?_ ?_
    ·simp only [go_sem, ht]; simp
    ·omega
    ·omega
   by_cases hk2 : a.fLink = b.fLink
   ·rw [if_neg (by simp [affB, hh, hL, hk2]), List.append_nil] at ht
    have hk' : decide (a.fLink = b.fLink) = true := by simp [hk2]
    have q0 := @h1; have q1 := @hh; have q2 := @hL; have q3 := @hk'; refine E1 (jp l[k].fQuery (by omega)) hc hn ?_
    refine ae (k + 1) ?_ ?_ ?_
    ·simp only [go_sem, ht]; simp
    ·omega
    ·omega
   ·rw [if_pos (by simp [affB, hh, hL, hk2])] at ht
    have hk' : decide (a.fLink = b.fLink) = false := by simp [hk2]
    have q0 := @h1; have q1 := @hh; have q2 := @hL; have q3 := @hk'; refine E1 (jp l[k].fQuery (by omega)) hc hn ?_
    refine ae (k + 1) ?_ ?_ ?_
    ·simp only [go_sem, ht, List.map_append]; simp
    ·omega
    ·omega
  ·simp only [decide_eq_false_iff_not] at h1
   have e : k = l.length := by omega
   subst e
   rw [List.take_length] at *
   refine af ?_
   exact aa ⟨⟨_, rfl, by simp only [go_sem, List.take_length, mK, hid, if_true]⟩, trivial⟩
theorem ry (l : List TDir) (a b : TFile) (h : aA l + (wFile a + wFile b) ≤ 4300000) : FnC Tryz.prog 192 [.o (.d (.sl (l.map ax))), a8 a, a8 b] (.o (.w 9 1 ((mK a b l).map ba))) := by
 have hl : l.length ≤ 4300000 := by unfold aA at h; omega
 have hch := yM a b (by omega)
 have hpl : (putL (chg a b)).length ≤ 4300000 := by have := dt (chg a b); omega
 refine ent Tryz.func192 rfl Tryz.call192 rfl (fun C => ?_); simp only [go_sem, st0, Tryz.ntmps192]
 by_cases hid : a.fID = b.fID
 case neg =>
  have hid' : decide (a.fID = b.fID) = false := by simp [hid]
  have q0 := @hid'; refine cg (ox l hl) ?_
  exact aa ⟨⟨_, rfl, by simp only [go_sem, mK, hid, if_false]⟩, trivial⟩
 have hid' : decide (a.fID = b.fID) = true := by simp [hid]
 have q0 := @hid'; refine cg (oz a b (by omega)) ?_
 by_cases hk2 : a.fLink = b.fLink
 ·have hk' : decide (a.fLink = b.fLink) = true := by simp [hk2]
  refine ak (α := Nat) (fun k => [(7, .o (.s 2)), (9, oi k), (20, .o .u)]) (fun k => [(2, .row 9 1 ((ic a b (l.take k)).map ba) true)]) (fun k => k ≤ l.length) (fun k => l.length - k) 0 (fun _ => ?_) ?_ ?_ (fun k hk => ?_)
  ·simp only [go_sem]
  ·simp only [go_sem]; simp [ic]
  ·simp
  ·simp only [go_sem]
   refine af ?_
   have hlen : (ic a b (l.take k)).length ≤ 4300000 := by have h2 := qN a b (l.take k); simp at h2; omega
   refine cnd rfl (fun h1 => ?_) (fun h1 => ?_)
   ·simp only [decide_eq_true_eq, Int.ofNat_lt] at h1
    have ht := nB a b l k h1
    have hq := wm l k h1
    have hqa := dt (qA l[k].fQuery)
    have hqb := qL l[k].fQuery
    have hl1 : (ic a b (l.take k)).length + 1 ≤ 140737488355328 := by omega
    have hl2 : ((ic a b (l.take k)).length + 1) * 16 ≤ 140737488355328 := by omega
    have hhit : affB a b l[k] = ((putL (qA l[k].fQuery)).any (hasS (putL (chg a b)))) := by rw [wl]; simp [affB, hk2, Bool.or_comm]
    have hQl : (putL (qA l[k].fQuery)).length ≤ 4300000 := by omega
    have q0 := @h1; have q1 := @hk'; refine l7 (k6 l[k].fQuery (by omega)) (qM l[k].fQuery (by omega)) ?_
    generalize putL (qA l[k].fQuery) = Q at *
    refine ak (α := Nat) (fun n => [(10, ob ((Q.take n).any (hasS (putL (chg a b))))), (12, oi n)]) (fun n => []) (fun n => n ≤ Q.length) (fun n => Q.length - n) 0 (fun _ => ?_) ?_ ?_ (fun n hn => ?_)
    ·simp only [go_sem]
    ·simp only [go_sem]; simp
    ·simp
    ·simp only [go_sem]
     refine af ?_
     refine cnd rfl (fun h2 => ?_) (fun h2 => ?_)
     ·simp only [decide_eq_true_eq, Int.ofNat_lt] at h2
      have hv : ((Q.take (n + 1)).any (hasS (putL (chg a b)))) = (((Q.take n).any (hasS (putL (chg a b)))) || hasS (putL (chg a b)) Q[n]) := by rw [List.take_succ_eq_append_getElem h2, List.any_append]; simp [Bool.or_assoc]
      generalize ((Q.take n).any (hasS (putL (chg a b)))) = v at *
      cases v
      ·have q0 := @h2; refine cg (cN (putL (chg a b)) Q[n] hpl) ?_
       refine ae (n + 1) ?_ ?_ ?_
       ·simp only [go_sem, hv]; simp
       ·omega
       ·omega
      ·have q0 := @h2; refine cg (cN (putL (chg a b)) Q[n] hpl) ?_
       refine ae (n + 1) ?_ ?_ ?_
       ·simp only [go_sem, hv]; simp
       ·omega
       ·omega
     ·simp only [decide_eq_false_iff_not] at h2
      have e : n = Q.length := by omega
      subst e
      rw [List.take_length, ← hhit]
      refine af ?_
      refine cnd (b := affB a b l[k]) rfl (fun hv => ?_) (fun hv => ?_)
      ·rw [if_pos hv] at ht
       have q0 := @h1; refine cw ?_
       refine ae (k + 1) ?_ ?_ ?_
       ·simp only [go_sem, ht, List.map_append]; simp
       ·omega
       ·omega
      ·rw [if_neg (by simp [hv]), List.append_nil] at ht
       have q0 := @h1; refine cw ?_
       refine ae (k + 1) ?_ ?_ ?_
       ·simp only [go_sem, ht]; simp
       ·omega
       ·omega
   ·simp only [decide_eq_false_iff_not] at h1
    have e : k = l.length := by omega
    subst e
    rw [List.take_length] at *
    refine af ?_
    exact aa ⟨⟨_, rfl, by simp only [go_sem, List.take_length, mK, hid, if_true]⟩, trivial⟩
 ·have hk' : decide (a.fLink = b.fLink) = false := by simp [hk2]
  refine ak (α := Nat) (fun k => [(7, .o (.s 2)), (9, oi k), (20, .o .u)]) (fun k => [(2, .row 9 1 ((ic a b (l.take k)).map ba) true)]) (fun k => k ≤ l.length) (fun k => l.length - k) 0 (fun _ => ?_) ?_ ?_ (fun k hk => ?_)
  ·simp only [go_sem]
  ·simp only [go_sem]; simp [ic]
  ·simp
  ·simp only [go_sem]
   refine af ?_
   have hlen : (ic a b (l.take k)).length ≤ 4300000 := by have h2 := qN a b (l.take k); simp at h2; omega
   refine cnd rfl (fun h1 => ?_) (fun h1 => ?_)
   ·simp only [decide_eq_true_eq, Int.ofNat_lt] at h1
    have ht := nB a b l k h1
    have hq := wm l k h1
    have hqa := dt (qA l[k].fQuery)
    have hqb := qL l[k].fQuery
    have hl1 : (ic a b (l.take k)).length + 1 ≤ 140737488355328 := by omega
    have hl2 : ((ic a b (l.take k)).length + 1) * 16 ≤ 140737488355328 := by omega
    have hhit : affB a b l[k] = (gR l[k].fQuery || (putL (qA l[k].fQuery)).any (hasS (putL (chg a b)))) := by rw [wl]; simp [affB, hk2, Bool.or_comm]
    have hQl : (putL (qA l[k].fQuery)).length ≤ 4300000 := by omega
    have q0 := @h1; have q1 := @hk'; refine l7 (k6 l[k].fQuery (by omega)) (qM l[k].fQuery (by omega)) ?_
    generalize putL (qA l[k].fQuery) = Q at *
    refine ak (α := Nat) (fun n => [(10, ob (gR l[k].fQuery || (Q.take n).any (hasS (putL (chg a b))))), (12, oi n)]) (fun n => []) (fun n => n ≤ Q.length) (fun n => Q.length - n) 0 (fun _ => ?_) ?_ ?_ (fun n hn => ?_)
    ·simp only [go_sem]
    ·simp only [go_sem]; simp
    ·simp
    ·simp only [go_sem]
     refine af ?_
     refine cnd rfl (fun h2 => ?_) (fun h2 => ?_)
     ·simp only [decide_eq_true_eq, Int.ofNat_lt] at h2
      have hv : (gR l[k].fQuery || (Q.take (n + 1)).any (hasS (putL (chg a b)))) = ((gR l[k].fQuery || (Q.take n).any (hasS (putL (chg a b)))) || hasS (putL (chg a b)) Q[n]) := by rw [List.take_succ_eq_append_getElem h2, List.any_append]; simp [Bool.or_assoc]
      generalize (gR l[k].fQuery || (Q.take n).any (hasS (putL (chg a b)))) = v at *
      cases v
      ·have q0 := @h2; refine cg (cN (putL (chg a b)) Q[n] hpl) ?_
       refine ae (n + 1) ?_ ?_ ?_
       ·simp only [go_sem, hv]; simp
       ·omega
       ·omega
      ·have q0 := @h2; refine cg (cN (putL (chg a b)) Q[n] hpl) ?_
       refine ae (n + 1) ?_ ?_ ?_
       ·simp only [go_sem, hv]; simp
       ·omega
       ·omega
     ·simp only [decide_eq_false_iff_not] at h2
      have e : n = Q.length := by omega
      subst e
      rw [List.take_length, ← hhit]
      refine af ?_
      refine cnd (b := affB a b l[k]) rfl (fun hv => ?_) (fun hv => ?_)
      ·rw [if_pos hv] at ht
       have q0 := @h1; refine cw ?_
       refine ae (k + 1) ?_ ?_ ?_
       ·simp only [go_sem, ht, List.map_append]; simp
       ·omega
       ·omega
      ·rw [if_neg (by simp [hv]), List.append_nil] at ht
       have q0 := @h1; refine cw ?_
       refine ae (k + 1) ?_ ?_ ?_
       ·simp only [go_sem, ht]; simp
       ·omega
       ·omega
   ·simp only [decide_eq_false_iff_not] at h1
    have e : k = l.length := by omega
    subst e
    rw [List.take_length] at *
    refine af ?_
    exact aa ⟨⟨_, rfl, by simp only [go_sem, List.take_length, mK, hid, if_true]⟩, trivial⟩
theorem qO (l : List TDir) (a b : TFile) (h : aA l + (wFile a + wFile b) ≤ 4300000) : FnC Tryz.prog 193 [.o (.d (.sl (l.map ax))), a8 a, a8 b] (.o (.d (.sl ((mK a b l).map ba)))) := (rx l a b h).pu (by simp only [go_sem, and_self])
theorem qP (l : List TDir) (a b : TFile) (h : aA l + (wFile a + wFile b) ≤ 4300000) : FnC Tryz.prog 192 [.o (.d (.sl (l.map ax))), a8 a, a8 b] (.o (.d (.sl ((mK a b l).map ba)))) := (ry l a b h).pu (by simp only [go_sem, and_self])
end Go.Proofs.YtddimbdeggomaaaGreat
end
section
set_option maxRecDepth 100000
set_option maxHeartbeats 4000000
namespace Go.Proofs.YtddimbdeggomaaaGreat
open Go Go.Sx Go.RowKit Go.Proofs Go.Sx.Clos
def isD (n : TNode) : Bool := decide (8 ≤ n.fOp) && decide (n.fOp ≤ 9)
def qD (q : List TNode) : List ByteArray := (q.filter isD).map TNode.fName
theorem tY (q : List TNode) : (qD q).length ≤ q.length := by simp only [qD, List.length_map]; exact List.length_filter_le _ _
theorem yI (q : List TNode) (k : Nat) (h : k < q.length) : qD (q.take (k + 1)) = qD (q.take k) ++ (if isD q[k] then [q[k].fName] else []) := by
 simp only [qD, List.take_succ_eq_append_getElem h, List.filter_append, List.map_append, List.filter_cons, List.filter_nil]
 cases isD q[k] <;> rfl
def eD (l : List TDir) : List (ByteArray × List ByteArray) := l.map fun d => (d.fName, putL (qD d.fQuery))
theorem Er (l : List TDir) : (eD l).length = l.length := by simp [eD]
def wS (s : ByteArray) : Nat := 1 + s.size
def pot (l : List TDir) (o : List ByteArray) : Nat := wsm wS o + ea wS (eD l) o
def nmD (l : List TDir) (y : ByteArray) : Prop := ∃ e ∈ eD l, e.1 = y
theorem xI (l : List TDir) (d : TDir) (h : d ∈ l) : nmD l d.fName := ⟨_, List.mem_map.2 ⟨d, h, rfl⟩, rfl⟩
theorem tZ (a b : List ByteArray) : wsm wS (a ++ b) = wsm wS a + wsm wS b := by
 induction a with
 | nil => simp [wsm]
 | cons x a ih => simp only [List.cons_append, wsm, ih]; omega
theorem BW (l : List ByteArray) : wsm wS l = iw l := by
 unfold iw
 induction l with
 | nil => simp [wsm, wsum]
 | cons x l ih => simp only [wsm, wsum, wS, List.length_cons, ih]; omega
theorem Dp (l : List ByteArray) : l.length ≤ wsm wS l := by rw [BW]; unfold iw; omega
theorem mG (l : List TDir) (o : List ByteArray) : o.length ≤ pot l o := by have := Dp o; unfold pot; omega
theorem we (o : List ByteArray) (s : ByteArray) : wsm wS (putS o s) ≤ wsm wS o + wS s := by
 unfold putS
 split
 ·omega
 ·unfold eB
  have h := congrArg (wsm wS) (List.take_append_drop (bZ (geS s) o) o)
  rw [tZ] at h
  rw [tZ]
  simp only [wsm]
  omega
theorem BX (o : List ByteArray) (s : ByteArray) (h : o.Pairwise ltS) (hs : s ∈ o) : putS o s = o :=
 kj qK nz (g6 s h) h fun x => by
  rw [iJ]
  constructor
  ·rintro (rfl | h)
   ·exact hs
   ·exact h
  ·exact .inr
def okS (l : List TDir) (B : Nat) (o : List ByteArray) : Prop := o.Pairwise ltS ∧ pot l o ≤ B
theorem t1 {l : List TDir} {B : Nat} (o : List ByteArray) (s : ByteArray) (h : okS l B o) (hs : nmD l s) : okS l B (putS o s) := by
 refine ⟨g6 s h.1, Nat.le_trans ?_ h.2⟩
 by_cases hm : s ∈ o
 ·rw [BX o s h.1 hm]; exact Nat.le_refl _
 ·have h1 := we o s
  have h2 := nw wS (eD l) (S := o) (T := putS o s) (fun x hx => (iJ o s x).2 (.inr hx)) hs ((iJ o s s).2 (.inl rfl)) hm
  unfold pot; omega
theorem Ah (l : List ByteArray) : ∀ a : List ByteArray, wsm wS (l.foldl putS a) ≤ wsm wS a + wsm wS l := by
 induction l with
 | nil => intro a; simp [wsm]
 | cons y l ih =>
  intro a
  have h1 := ih (putS a y)
  have h2 := we a y
  simp only [List.foldl_cons, wsm]; omega
theorem BY (l : List TDir) (names : List ByteArray) : okS l (pot l names) (putL names) := by
 refine ⟨wk names, ?_⟩
 have h1 := Ah names []
 have h2 := od wS (eD l) (S := names) (T := putL names) (fun x hx => (gb names x).2 hx)
 simp only [wsm] at h1
 unfold pot putL at *
 omega
def g5 (l : List TDir) (names : List ByteArray) (n : Nat) : List ByteArray := dK putS (eD l) n (putL names)
def tdS (l : List TDir) (names : List ByteArray) : List ByteArray := g5 l names (l.length + 1)
theorem lB (l : List TDir) (names : List ByteArray) (n : Nat) : okS l (pot l names) (g5 l names n) :=
 qJ (Nm := nmD l) (fun o s h hs => t1 o s h hs) (eD l) (fun e he => ⟨e, he, rfl⟩) (BY l names) n
theorem Ai (l : List TDir) (B i : Nat) (S : List ByteArray) (h : okS l B S) : okS l B (round putS (eD (l.take i)) S) :=
 sG (Nm := nmD l) (fun o s h hs => t1 o s h hs) (eD (l.take i)) (fun e he => by
  obtain ⟨d, hd, rfl⟩ := List.mem_map.1 he
  exact xI l d (List.mem_of_mem_take hd)) S h
theorem Dq (l : List TDir) (B : Nat) (d : TDir) (hd : d ∈ l) (az S : List ByteArray) (h : okS l B S) : okS l B (askC putS d.fName S az) :=
 yK (Nm := nmD l) (fun o s h hs => t1 o s h hs) d.fName (xI l d hd) az S h
theorem yJ {l : List TDir} {B : Nat} {o : List ByteArray} (h : okS l B o) : o.length ≤ B := Nat.le_trans (mG l o) h.2
theorem xJ (l : List TDir) (S : List ByteArray) (i : Nat) (h : i < l.length) : round putS (eD (l.take (i + 1))) S = askC putS l[i].fName (round putS (eD (l.take i)) S) (putL (qD l[i].fQuery)) := by
 simp only [round, eD, List.take_succ_eq_append_getElem h, List.map_append, List.map_cons, List.map_nil, List.foldl_append, List.foldl_cons, List.foldl_nil]
theorem Es (n : ByteArray) (S Q : List ByteArray) (k : Nat) (h : k < Q.length) (hm : Q[k] ∈ askC putS n S (Q.take k)) : askC putS n S (Q.take (k + 1)) = putS (askC putS n S (Q.take k)) n := by
 unfold askC at *
 rw [List.take_succ_eq_append_getElem h, List.foldl_append, List.foldl_cons, List.foldl_nil, if_pos hm]
theorem Dr (n : ByteArray) (S Q : List ByteArray) (k : Nat) (h : k < Q.length) (hm : ¬ Q[k] ∈ askC putS n S (Q.take k)) : askC putS n S (Q.take (k + 1)) = askC putS n S (Q.take k) := by
 unfold askC at *
 rw [List.take_succ_eq_append_getElem h, List.foldl_append, List.foldl_cons, List.foldl_nil, if_neg hm]
def jo (l : List TDir) (s : ByteArray) : List ByteArray := (l.filter fun d => hasS (qD d.fQuery) s).map TDir.fName
theorem wg (l : List TDir) (s y : ByteArray) : y ∈ jo l s ↔ ∃ d ∈ l, s ∈ qD d.fQuery ∧ d.fName = y := by
 unfold jo
 rw [List.mem_map]
 constructor
 ·rintro ⟨d, hd, rfl⟩
  rw [List.mem_filter] at hd
  exact ⟨d, hd.1, (d8 _ _).1 hd.2, rfl⟩
 ·rintro ⟨d, hd, hs, rfl⟩
  exact ⟨d, List.mem_filter.2 ⟨hd, (d8 _ _).2 hs⟩, rfl⟩
theorem wh (l : List TDir) (s : ByteArray) : (jo l s).length ≤ l.length := by simp only [jo, List.length_map]; exact List.length_filter_le _ _
theorem Aj (l : List TDir) (s : ByteArray) (k : Nat) (h : k < l.length) : jo (l.take (k + 1)) s = jo (l.take k) s ++ (if hasS (qD l[k].fQuery) s then [l[k].fName] else []) := by
 simp only [jo, List.take_succ_eq_append_getElem h, List.filter_append, List.map_append, List.filter_cons, List.filter_nil]
 cases hasS (qD l[k].fQuery) s <;> rfl
structure Good (l : List TDir) (names o : List ByteArray) : Prop where
 ext : ∀ x ∈ names, x ∈ o
 least : ∀ T, Closed (eD l) T → (∀ x ∈ names, x ∈ T) → ∀ x ∈ o, x ∈ T
 le : pot l o ≤ pot l names
theorem Good.start (l : List TDir) (names : List ByteArray) : Good l names names := ⟨fun _ h => h, fun _ _ h => h, Nat.le_refl _⟩
theorem Good.add {l : List TDir} {names o : List ByteArray} (g : Good l names o) {x y : ByteArray} (hx : x ∈ o) (hy : y ∈ jo l x) (hn : ¬ y ∈ o) : Good l names (o ++ [y]) := by
 obtain ⟨d, hd, hq, rfl⟩ := (wg l x y).1 hy
 refine ⟨fun z hz => List.mem_append_left _ (g.ext z hz), fun T hT h z hz => ?_, ?_⟩
 ·rcases List.mem_append.1 hz with h1 | h1
  ·exact g.least T hT h z h1
  ·simp only [List.mem_singleton] at h1
   subst h1
   exact hT _ (List.mem_map.2 ⟨d, hd, rfl⟩) ⟨x, (gb _ _).2 hq, g.least T hT h x hx⟩
 ·have h1 := nw wS (eD l) (S := o) (T := o ++ [d.fName]) (fun z hz => List.mem_append_left _ hz) (xI l d hd) (by simp) hn
  have h2 := g.le
  have h3 := tZ o [d.fName]
  simp only [wsm] at h3
  unfold pot at *
  omega
theorem Good.done {l : List TDir} {names o : List ByteArray} (g : Good l names o) (hc : ∀ x ∈ o, ∀ y ∈ jo l x, y ∈ o) : bO o = tdS l names := by
 refine kj qK nz (t6 o) (lB l names (l.length + 1)).1 fun x => ?_
 rw [fM]
 have h := wj (put := putS) iJ (eD l) (S := putL names) (O := o) (fun x hx => g.ext x ((gb _ _).1 hx)) (fun e he hx => by
  obtain ⟨d, hd, rfl⟩ := List.mem_map.1 he
  obtain ⟨x, hx, ho⟩ := hx
  exact hc x ho _ ((wg l x _).2 ⟨d, hd, (gb _ _).1 hx, rfl⟩)) (fun T hT hs => g.least T hT fun x hx => hs x ((gb _ _).2 hx)) x
 rw [Er] at h
 exact h
end Go.Proofs.YtddimbdeggomaaaGreat
end
section
set_option maxRecDepth 100000
set_option maxHeartbeats 4000000
namespace Go.Proofs.YtddimbdeggomaaaGreat
open Go Go.Sx Go.RowKit Go.Proofs Go.Sx.Clos
theorem Ae (q : List TNode) (hl : q.length ≤ 4300000) : FnC Tryz.prog 196 [.o (.d (.sl (q.map aw)))] (.o (.w 9 1 ((putL (qD q)).map ba))) := by
 refine ent Tryz.func196 rfl Tryz.call196 rfl (fun C => ?_); simp only [go_sem, st0, Tryz.ntmps196]
 refine af ?_
 refine jj 3 0 rfl rfl ?_
 simp only [go_sem]
 refine ak (α := Nat) (fun k => [(3, .o (.d (.sl ((putL (qD (q.take k))).map ba)))), (4, oi k), (5, .o .u)]) (fun _ => []) (fun k => k ≤ q.length) (fun k => q.length - k) 0 (fun _ => ?_) ?_ ?_ (fun k hk => ?_)
 ·simp only [go_sem]
 ·simp only [go_sem]; simp [qD, putL]
 ·simp
 ·simp only [go_sem]
  refine af ?_
  have hlen : (putL (qD (q.take k))).length ≤ 4300000 := by have h1 := dt (qD (q.take k)); have h2 := tY (q.take k); simp at h2; omega
  refine cnd rfl (fun h1 => ?_) (fun h1 => ?_)
  ·simp only [decide_eq_true_eq, Int.ofNat_lt] at h1
   have ht := yI q k h1
   have q0 := @h1; refine cg (show FnC Tryz.prog _ _ (ob (isD q[k])) from aN q[k].fOp 8 9) ?_
   refine cnd rfl (fun hv => ?_) (fun hv => ?_)
   ·rw [hv] at ht
    simp only [if_true] at ht
    have q0 := @h1; refine cg (gt (putL (qD (q.take k))) q[k].fName hlen) ?_
    refine ae (k + 1) ?_ ?_ ?_
    ·simp only [go_sem, ht, kc]; simp
    ·omega
    ·omega
   ·rw [hv] at ht
    simp only [Bool.false_eq_true, if_false, List.append_nil] at ht
    have q0 := @h1; refine cw ?_
    refine ae (k + 1) ?_ ?_ ?_
    ·simp only [go_sem, ht]; simp
    ·omega
    ·omega
  ·simp only [decide_eq_false_iff_not] at h1
   have e : k = q.length := by omega
   subst e
   rw [List.take_length] at *
   refine af ?_
   exact aa ⟨⟨_, rfl, by simp only [go_sem, List.take_length]⟩, trivial⟩
theorem wc (n : TNode) : FnC Tryz.prog 304 [jt n] (ob (isD n)) := by
 refine ent Tryz.func304 rfl Tryz.call304 rfl (fun C => ?_); simp only [go_sem, st0, Tryz.ntmps304]
 by_cases c8 : n.fOp = 8
 ·have hd : isD n = true := by simp [isD, c8]
  have q0 := @c8; have q1 := @decide_true; refine fg ?_
  exact aa ⟨⟨_, rfl, by simp only [go_sem, hd]⟩, trivial⟩
 by_cases c9 : n.fOp = 9
 ·have hd : isD n = true := by simp [isD, c9]
  have q0 := @c8; have q1 := @c9; have q2 := @decide_true; have q3 := @decide_false; refine f6 ?_
  exact aa ⟨⟨_, rfl, by simp only [go_sem, hd]⟩, trivial⟩
 ·have hd : isD n = false := by
   rw [← Bool.not_eq_true]
   simp only [isD, Bool.and_eq_true, decide_eq_true_eq]; omega
  have q0 := @c8; have q1 := @c9; have q2 := @decide_true; have q3 := @decide_false; refine f6 ?_
  exact aa ⟨⟨_, rfl, by simp only [go_sem, hd]⟩, trivial⟩
theorem Af (q : List TNode) (hl : q.length ≤ 4300000) : FnC Tryz.prog 272 [.o (.d (.sl (q.map aw)))] (.o (.w 9 1 ((bO (qD q)).map ba))) := by
 refine ent Tryz.func272 rfl Tryz.call272 rfl (fun C => ?_); simp only [go_sem, st0, Tryz.ntmps272]
 refine af ?_
 refine ak (α := Nat) (fun k => [(3, .o (.s 0)), (6, .o .u), (9, oi k)]) (fun k => [(0, .row 9 1 ((qD (q.take k)).map ba) true)]) (fun k => k ≤ q.length) (fun k => q.length - k) 0 (fun _ => ?_) ?_ ?_ (fun k hk => ?_)
 ·simp only [go_sem]
 ·simp only [go_sem]; simp [qD]
 ·simp
 ·simp only [go_sem]
  refine af ?_
  have hlen : (qD (q.take k)).length ≤ 4300000 := by have h2 := tY (q.take k); simp at h2; omega
  refine cnd rfl (fun h1 => ?_) (fun h1 => ?_)
  ·simp only [decide_eq_true_eq, Int.ofNat_lt] at h1
   have ht := yI q k h1
   have hl1 : (qD (q.take k)).length + 1 ≤ 140737488355328 := by omega
   have hl2 : ((qD (q.take k)).length + 1) * 16 ≤ 140737488355328 := by omega
   have q0 := @h1; refine cg (wc q[k]) ?_
   refine cnd (b := isD q[k]) rfl (fun hv => ?_) (fun hv => ?_)
   ·rw [if_pos hv] at ht
    have q0 := @h1; refine cw ?_
    refine ae (k + 1) ?_ ?_ ?_
    ·simp only [go_sem, ht, List.map_append]; simp
    ·omega
    ·omega
   ·rw [if_neg (by simp [hv]), List.append_nil] at ht
    have q0 := @h1; refine cw ?_
    refine ae (k + 1) ?_ ?_ ?_
    ·simp only [go_sem, ht]; simp
    ·omega
    ·omega
  ·simp only [decide_eq_false_iff_not] at h1
   have e : k = q.length := by omega
   subst e
   rw [List.take_length] at *
   refine cH (eH (qD q) hlen) ?_
   exact aa ⟨⟨_, rfl, by simp only [go_sem, List.take_length]⟩, trivial⟩
theorem xF (q : List TNode) (hl : q.length ≤ 4300000) : FnC Tryz.prog 272 [.o (.d (.sl (q.map aw)))] (.o (.d (.sl ((bO (qD q)).map ba)))) := (Af q hl).pu (by simp only [go_sem, and_self])
theorem xG (q : List TNode) (hl : q.length ≤ 4300000) : FnC Tryz.prog 196 [.o (.d (.sl (q.map aw)))] (.o (.d (.sl ((putL (qD q)).map ba)))) := (Ae q hl).pu (by simp only [go_sem, and_self])
theorem Ag (l : List ByteArray) (s : ByteArray) : hasS (bO l) s = hasS l s := by rw [Bool.eq_iff_iff, d8, d8, fM]
theorem xH (l : List TDir) (s : ByteArray) (h : aA l ≤ 4300000) : FnC Tryz.prog 204 [.o (.d (.sl (l.map ax))), os s] (.o (.w 9 1 ((jo l s).map ba))) := by
 have hl : l.length ≤ 4300000 := by unfold aA at h; omega
 refine ent Tryz.func204 rfl Tryz.call204 rfl (fun C => ?_); simp only [go_sem, st0, Tryz.ntmps204]
 refine af ?_
 refine ak (α := Nat) (fun k => [(5, .o (.s 0)), (8, .o .u), (11, oi k)]) (fun k => [(0, .row 9 1 ((jo (l.take k) s).map ba) true)]) (fun k => k ≤ l.length) (fun k => l.length - k) 0 (fun _ => ?_) ?_ ?_ (fun k hk => ?_)
 ·simp only [go_sem]
 ·simp only [go_sem]; simp [jo]
 ·simp
 ·simp only [go_sem]
  refine af ?_
  have hlen : (jo (l.take k) s).length ≤ 4300000 := by have h2 := wh (l.take k) s; simp at h2; omega
  refine cnd rfl (fun h1 => ?_) (fun h1 => ?_)
  ·simp only [decide_eq_true_eq, Int.ofNat_lt] at h1
   have ht := Aj l s k h1
   have hq := wm l k h1
   have hqa := iI (qD l[k].fQuery)
   have hqb := tY l[k].fQuery
   have hl1 : (jo (l.take k) s).length + 1 ≤ 140737488355328 := by omega
   have hl2 : ((jo (l.take k) s).length + 1) * 16 ≤ 140737488355328 := by omega
   have hc := bQ (bO (qD l[k].fQuery)) s (by omega)
   rw [Ag] at hc
   have q0 := @h1; refine uZ (xF l[k].fQuery (by omega)) hc ?_
   refine cnd (b := hasS (qD l[k].fQuery) s) rfl (fun hv => ?_) (fun hv => ?_)
   ·rw [if_pos hv] at ht
    have q0 := @h1; refine cw ?_
    refine ae (k + 1) ?_ ?_ ?_
    ·simp only [go_sem, ht, List.map_append]; simp
    ·omega
    ·omega
   ·rw [if_neg (by simp [hv]), List.append_nil] at ht
    have q0 := @h1; refine cw ?_
    refine ae (k + 1) ?_ ?_ ?_
    ·simp only [go_sem, ht]; simp
    ·omega
    ·omega
  ·simp only [decide_eq_false_iff_not] at h1
   have e : k = l.length := by omega
   subst e
   rw [List.take_length] at *
   refine af ?_
   exact aa ⟨⟨_, rfl, by simp only [go_sem, List.take_length]⟩, trivial⟩
theorem wd (l : List TDir) (s : ByteArray) (h : aA l ≤ 4300000) : FnC Tryz.prog 204 [.o (.d (.sl (l.map ax))), os s] (.o (.d (.sl ((jo l s).map ba)))) := (xH l s h).pu (by simp only [go_sem, and_self])
end Go.Proofs.YtddimbdeggomaaaGreat
end
