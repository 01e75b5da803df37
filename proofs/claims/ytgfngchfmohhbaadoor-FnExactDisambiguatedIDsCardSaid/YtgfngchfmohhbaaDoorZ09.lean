/- Joined texts. -/
import Derived.Test.YtgfngchfmohhbaaDoorZ07
import Derived.Test.YtgfngchfmohhbaaDoorZ06
import Derived.Test.YtgfngchfmohhbaaDoorZ08
set_option linter.all false
section
set_option maxRecDepth 100000
set_option maxHeartbeats 4000000
namespace Go.Proofs.YtgfngchfmohhbaaDoor
open Go Go.Sx Go.RowKit Go.Proofs
theorem xN (l : List TAttr) (hl : l.length ≤ 4300000) : FnC Tryd.prog 94 [.o (.d (.sl (l.map aY)))] (.o (.w 70 4 (l.map aY))) := by
 refine ent Tryd.func94 rfl Tryd.call94 rfl (fun C => ?_); simp only [go_sem, st0, Tryd.ntmps94]
 refine aH ?_
 intro b hb
 refine aH ?_
 refine cnd rfl (fun h1 => ?_) (fun h1 => ?_)
 ·have e := hb h1
  simp only [List.map_eq_nil_iff] at e
  subst e
  refine aH ?_
  exact aA ⟨⟨_, rfl, by simp only [go_sem]⟩, trivial⟩
 ·refine aH ?_
  exact aA ⟨⟨_, rfl, by simp only [go_sem, a5u]⟩, trivial⟩
theorem oW (f : Nat) (c : List D) (p : TFile → Bool) (l : List TFile) (hf : ∀ s ∈ l, FnC Tryd.prog f [fQ s, .o (.q c)] (ob (p s))) (hl : l.length ≤ 8388608) : FnC Tryd.prog 92 [.o (.d (.sl (l.map aZ))), .o (.f f [c])] (oi (dF p l 0)) := by
 refine ent Tryd.func92 rfl Tryd.call92 rfl (fun C => ?_); simp only [go_sem, st0, Tryd.ntmps92]
 refine aH ?_
 refine bB (α := Nat) (fun k => [(8, oi k)]) (fun _ => []) (fun k => k ≤ l.length ∧ dF p l 0 = dF p (l.drop k) k) (fun k => l.length - k) 0 (fun _ => ?_) ?_ ?_ (fun k hk => ?_)
 ·simp only [go_sem]
 ·simp only [go_sem]; simp
 ·simp
 ·obtain ⟨hk, hq⟩ := hk
  simp only [go_sem]
  refine aH ?_
  refine cnd rfl (fun h => ?_) (fun h => ?_)
  ·simp only [decide_eq_true_eq, Int.ofNat_lt] at h
   have hd := List.drop_eq_getElem_cons h
   rw [hd, dF] at hq
   have q0 := @h; refine jK (hf l[k] (List.getElem_mem h)) ?_
   refine cnd rfl (fun h2 => ?_) (fun h2 => ?_)
   ·refine aH ?_
    exact aA ⟨⟨_, rfl, by simp only [go_sem, hq, h2]⟩, trivial⟩
   ·refine aH ?_
    refine aM (k + 1) ?_ ?_ ?_
    ·simp only [go_sem]; simp
    ·rw [hq, h2]; exact ⟨h, by simp⟩
    ·omega
  ·simp only [decide_eq_false_iff_not] at h
   have e : k = l.length := by omega
   subst e
   simp only [List.drop_length, dF] at hq
   refine aH ?_
   exact aA ⟨⟨_, rfl, by simp only [go_sem, hq]⟩, trivial⟩
end Go.Proofs.YtgfngchfmohhbaaDoor
end
section
set_option maxRecDepth 100000
namespace Go.Proofs.YtgfngchfmohhbaaDoor
open Go Go.Sx Go.RowKit Go.Proofs
end Go.Proofs.YtgfngchfmohhbaaDoor
end
section
set_option maxRecDepth 100000
set_option maxHeartbeats 4000000
namespace Go.Proofs.YtgfngchfmohhbaaDoor
open Go Go.Sx Go.RowKit Go.Proofs
def ixF (id : Int) (l : List TFile) : Int := dF (fun f => decide (f.fID = id)) l 0
theorem ixF_cases (id : Int) (l : List TFile) : (ixF id l = -1) ∨ ∃ p : Nat, ixF id l = p ∧ ∃ h : p < l.length, l[p].fID = id := by
 rcases idxP_spec (fun f : TFile => decide (f.fID = id)) l 0 with h | ⟨k, e1, e2, e5, e6⟩
 ·exact .inl h.1
 ·exact .inr ⟨k, by unfold ixF; rw [e1]; simp, e2, by simpa using e5⟩
def zF : TFile := ⟨0, 0, false, 0, []⟩
def findF (id : Int) (l : List TFile) : TFile := if 0 ≤ ixF id l then l.getD (ixF id l).toNat zF else zF
theorem tO {id : Int} {l : List TFile} (h : ixF id l = -1) : findF id l = zF := by unfold findF; rw [h]; rfl
theorem oV {id : Int} {l : List TFile} {p : Nat} (h : ixF id l = p) (hp : p < l.length) : findF id l = l[p] := by unfold findF; rw [h, if_pos (by omega)]; simp [hp]
theorem a1a (id : Int) (l : List TFile) : wFile (findF id l) ≤ bP l := by
 rcases ixF_cases id l with h | ⟨p, h, hp, _⟩
 ·rw [tO h]; simp [zF, wFile, bK, wsum]
 ·rw [oV h hp]; have := dK wFile l hp; unfold bP; omega
theorem a1J (f : TFile) (h : f.fAttrs.length ≤ 4300000) : FnC Tryd.prog 77 [fQ f] (yX f) := by
 refine ent Tryd.func77 rfl Tryd.call77 rfl (fun C => ?_); simp only [go_sem, st0, Tryd.ntmps77]
 refine qB (xN f.fAttrs h) ?_
 exact aA ⟨⟨_, rfl, by simp only [go_sem]⟩, trivial⟩
theorem a2J (f : TFile) (h : f.fAttrs.length ≤ 4300000) : FnC Tryd.prog 90 [fQ f] (yX f) := by
 refine ent Tryd.func90 rfl Tryd.call90 rfl (fun C => ?_); simp only [go_sem, st0, Tryd.ntmps90]
 refine aH ?_
 exact aA ⟨⟨_, rfl, by simp only [go_sem]⟩, trivial⟩
theorem a0E (id : Int) (x : TFile) : FnC Tryd.prog 93 [fQ x, .o (.q [iv id])] (ob (decide (x.fID = id))) := by
 refine ent Tryd.func93 rfl Tryd.call93 rfl (fun C => ?_); simp only [go_sem, st0, Tryd.ntmps93]
 refine aH ?_
 exact aA ⟨⟨_, rfl, by simp only [go_sem]⟩, trivial⟩
theorem wC (s : TStore) (id : Int) (hl : s.fFiles.length ≤ 4300000) : FnC Tryd.prog 76 [bH s, oi id] (oi (ixF id s.fFiles)) := by
 refine ent Tryd.func76 rfl Tryd.call76 rfl (fun C => ?_); simp only [go_sem, st0, Tryd.ntmps76]
 refine qB (oW _ _ (fun x => decide (x.fID = id)) s.fFiles (fun y _ => a0E id y) (by omega)) ?_
 exact aA ⟨⟨_, rfl, by simp only [go_sem, ixF]⟩, trivial⟩
theorem pU (s : TStore) (id : Int) (hl : s.fFiles.length ≤ 4300000) : FnC Tryd.prog 89 [bH s, oi id] (oi (ixF id s.fFiles)) := by
 refine ent Tryd.func89 rfl Tryd.call89 rfl (fun C => ?_); simp only [go_sem, st0, Tryd.ntmps89]
 refine aH ?_
 refine bB (α := Nat) (fun k => [(5, oi k)]) (fun _ => []) (fun k => k ≤ s.fFiles.length ∧ ixF id s.fFiles = dF (fun f => decide (f.fID = id)) (s.fFiles.drop k) k) (fun k => s.fFiles.length - k) 0 (fun _ => ?_) ?_ ?_ (fun k hk => ?_)
 ·simp only [go_sem]
 ·simp only [go_sem]; simp
 ·simp [ixF]
 ·obtain ⟨hk, hq⟩ := hk
  simp only [go_sem]
  refine aH ?_
  refine cnd rfl (fun h => ?_) (fun h => ?_)
  ·simp only [decide_eq_true_eq, Int.ofNat_lt] at h
   have hd := List.drop_eq_getElem_cons h
   rw [hd, dF] at hq
   by_cases h2 : s.fFiles[k].fID = id
   ·rw [if_pos (by simp [h2])] at hq
    have q0 := @h; have q1 := @h2; have q2 := @decide_true; refine yS ?_
    exact aA ⟨⟨_, rfl, by simp only [go_sem, hq]⟩, trivial⟩
   ·rw [if_neg (by simp [h2])] at hq
    have q0 := @h; have q1 := @h2; have q2 := @decide_false; refine yS ?_
    refine aM (k + 1) ?_ ?_ ?_
    ·simp only [go_sem]; simp
    ·rw [hq]; exact ⟨h, by simp⟩
    ·omega
  ·simp only [decide_eq_false_iff_not] at h
   have e : k = s.fFiles.length := by omega
   subst e
   simp only [List.drop_length, dF] at hq
   refine aH ?_
   exact aA ⟨⟨_, rfl, by simp only [go_sem, hq]⟩, trivial⟩
theorem zI (s : TStore) (id : Int) (h : aJ s ≤ 4300000) : FnC Tryd.prog 54 [bH s, oi id] (.t [(true, (yX (findF id s.fFiles)).cells), (false, [.d (bv (decide (0 ≤ ixF id s.fFiles)))])]) := by
 have hl : s.fFiles.length ≤ 4300000 := by unfold aJ bP at h; omega
 refine ent Tryd.func54 rfl Tryd.call54 rfl (fun C => ?_); simp only [go_sem, st0, Tryd.ntmps54]
 rcases ixF_cases id s.fFiles with e | ⟨p, e, hp, _⟩
 ·have e1 := tO e
  have hz : ¬ (0 : Int) ≤ -1 := by omega
  have hk := wC s id hl
  rw [e] at hk
  have q0 := @hz; have q1 := @decide_false; refine xG hk ?_
  exact aA ⟨⟨_, rfl, by simp only [go_sem, e, e1, hz, decide_false, zF, List.map_nil]; try simp⟩, by simp [iC]⟩
 ·have e1 := oV e hp
  have hz : (0 : Int) ≤ (p : Int) := by omega
  have hw := dK wFile s.fFiles hp
  have hx : s.fFiles[p].fAttrs.length ≤ 4300000 := by
   have e : s.fFiles[p].fAttrs.length ≤ wFile s.fFiles[p] := by unfold wFile bK; omega
   unfold aJ bP at h; omega
  have hk := wC s id hl
  rw [e] at hk
  have q0 := @hz; have q1 := @hp; have q2 := @decide_true; have q3 := @Int.toNat_natCast; refine a1w hk (a1J s.fFiles[p] hx) ?_
  exact aA ⟨⟨_, rfl, by simp only [go_sem, e, e1, hz, decide_true]; try simp⟩, by simp [iC]⟩
theorem zJ (s : TStore) (id : Int) (h : aJ s ≤ 4300000) : FnC Tryd.prog 74 [bH s, oi id] (.t [(true, (yX (findF id s.fFiles)).cells), (false, [.d (bv (decide (0 ≤ ixF id s.fFiles)))])]) := by
 have hl : s.fFiles.length ≤ 4300000 := by unfold aJ bP at h; omega
 refine ent Tryd.func74 rfl Tryd.call74 rfl (fun C => ?_); simp only [go_sem, st0, Tryd.ntmps74]
 rcases ixF_cases id s.fFiles with e | ⟨p, e, hp, _⟩
 ·have e1 := tO e
  have hz : ¬ (0 : Int) ≤ -1 := by omega
  have hy : (-1 : Int) < 0 := by omega
  have hk := pU s id hl
  rw [e] at hk
  have q0 := @hy; have q1 := @decide_true; refine xG hk ?_
  exact aA ⟨⟨_, rfl, by simp only [go_sem, e, e1, hz, decide_false, zF, List.map_nil]; try simp⟩, by simp [iC]⟩
 ·have e1 := oV e hp
  have hz : (0 : Int) ≤ (p : Int) := by omega
  have hy : ¬ (p : Int) < 0 := by omega
  have hw := dK wFile s.fFiles hp
  have hx : s.fFiles[p].fAttrs.length ≤ 4300000 := by
   have e : s.fFiles[p].fAttrs.length ≤ wFile s.fFiles[p] := by unfold wFile bK; omega
   unfold aJ bP at h; omega
  have hk := pU s id hl
  rw [e] at hk
  have q0 := @hy; have q1 := @hp; have q2 := @decide_false; have q3 := @Int.toNat_natCast; refine a1w hk (a2J s.fFiles[p] hx) ?_
  exact aA ⟨⟨_, rfl, by simp only [go_sem, e, e1, hz, decide_true]; try simp⟩, by simp [iC]⟩
end Go.Proofs.YtgfngchfmohhbaaDoor
end
section
namespace Go.Proofs.YtgfngchfmohhbaaDoor
open Go Go.Sx Go.RowKit Go.Proofs
def bV (name : ByteArray) : List TAttr → TValue
 | [] => ⟨0, 0, ⟨#[]⟩⟩
 | a :: r => if a.fName = name then a.fValue else bV name r
theorem tQ (x : TFile) (name : ByteArray) (h : wFile x ≤ 4300000) : FnC Tryd.prog 78 [fQ x, os name] (fA (bV name x.fAttrs)) := by
 unfold wFile bK at h
 generalize hg : bV name x.fAttrs = res
 refine ent Tryd.func78 rfl Tryd.call78 rfl (fun C => ?_); simp only [go_sem, st0, Tryd.ntmps78]
 refine aH ?_
 refine bB (α := Nat) (fun k => [(10, oi k)]) (fun _ => []) (fun k => k ≤ x.fAttrs.length ∧ bV name (x.fAttrs.drop k) = res) (fun k => x.fAttrs.length - k) 0 (fun _ => ?_) ?_ ?_ (fun k hk => ?_)
 ·simp only [go_sem]
 ·simp only [go_sem]; simp
 ·simp [hg]
 ·obtain ⟨hk, hq⟩ := hk
  simp only [go_sem]
  refine aH ?_
  refine cnd rfl (fun h => ?_) (fun h => ?_)
  ·simp only [decide_eq_true_eq, Int.ofNat_lt] at h
   have hd := List.drop_eq_getElem_cons h
   rw [hd, bV] at hq
   by_cases h1 : x.fAttrs[k].fName = name
   ·rw [if_pos h1] at hq
    subst hq
    have q0 := @h; have q1 := @h1; refine lC ?_
    exact aA ⟨⟨_, rfl, by simp only [go_sem]⟩, trivial⟩
   ·rw [if_neg h1] at hq
    have q0 := @h; have q1 := @h1; refine lC ?_
    refine aM (k + 1) ?_ ?_ ?_
    ·simp only [go_sem]; simp
    ·exact ⟨h, hq⟩
    ·omega
  ·simp only [decide_eq_false_iff_not] at h
   have e : k = x.fAttrs.length := by omega
   rw [e, List.drop_length, bV] at hq
   subst hq
   refine aH ?_
   exact aA ⟨⟨_, rfl, by simp only [go_sem]⟩, trivial⟩
theorem tT (x : TFile) (name : ByteArray) (h : wFile x ≤ 4300000) : FnC Tryd.prog 91 [fQ x, os name] (fA (bV name x.fAttrs)) := by
 unfold wFile bK at h
 generalize hg : bV name x.fAttrs = res
 refine ent Tryd.func91 rfl Tryd.call91 rfl (fun C => ?_); simp only [go_sem, st0, Tryd.ntmps91]
 refine aH ?_
 refine bB (α := Nat) (fun k => [(5, oi k)]) (fun _ => []) (fun k => k ≤ x.fAttrs.length ∧ bV name (x.fAttrs.drop k) = res) (fun k => x.fAttrs.length - k) 0 (fun _ => ?_) ?_ ?_ (fun k hk => ?_)
 ·simp only [go_sem]
 ·simp only [go_sem]; simp
 ·simp [hg]
 ·obtain ⟨hk, hq⟩ := hk
  simp only [go_sem]
  refine aH ?_
  refine cnd rfl (fun h => ?_) (fun h => ?_)
  ·simp only [decide_eq_true_eq, Int.ofNat_lt] at h
   have hd := List.drop_eq_getElem_cons h
   rw [hd, bV] at hq
   by_cases h1 : x.fAttrs[k].fName = name
   ·rw [if_pos h1] at hq
    subst hq
    have q0 := @h; have q1 := @h1; refine lC ?_
    exact aA ⟨⟨_, rfl, by simp only [go_sem]⟩, trivial⟩
   ·rw [if_neg h1] at hq
    have q0 := @h; have q1 := @h1; refine lC ?_
    refine aM (k + 1) ?_ ?_ ?_
    ·simp only [go_sem]; simp
    ·exact ⟨h, hq⟩
    ·omega
  ·simp only [decide_eq_false_iff_not] at h
   have e : k = x.fAttrs.length := by omega
   rw [e, List.drop_length, bV] at hq
   subst hq
   refine aH ?_
   exact aA ⟨⟨_, rfl, by simp only [go_sem]⟩, trivial⟩
def eO (x : TFile) : ByteArray := if (bV ⟨#[110]⟩ x.fAttrs).fKind = 2 then (bV ⟨#[110]⟩ x.fAttrs).fStr else ⟨#[102, 105, 108, 101]⟩
theorem qE (x : TFile) (h : wFile x ≤ 1048576) : FnC Tryd.prog 75 [fQ x] (os (eO x)) := by
 refine ent Tryd.func75 rfl Tryd.call75 rfl (fun C => ?_); simp only [go_sem, st0, Tryd.ntmps75]
 by_cases h1 : (bV ⟨#[110]⟩ x.fAttrs).fKind = 2
 all_goals
  have q0 := @h1; refine jK (tT x ⟨#[110]⟩ (by omega)) ?_
  exact aA ⟨⟨_, rfl, by simp only [go_sem, eO, h1]⟩, trivial⟩
theorem qF (x : TFile) (h : wFile x ≤ 1048576) : FnC Tryd.prog 55 [fQ x] (os (eO x)) := by
 refine ent Tryd.func55 rfl Tryd.call55 rfl (fun C => ?_); simp only [go_sem, st0, Tryd.ntmps55]
 by_cases h1 : (bV ⟨#[110]⟩ x.fAttrs).fKind = 2
 all_goals
  have q0 := @h1; refine jK (tQ x ⟨#[110]⟩ (by omega)) ?_
  exact aA ⟨⟨_, rfl, by simp only [go_sem, eO, h1]⟩, trivial⟩
end Go.Proofs.YtgfngchfmohhbaaDoor
end
section
section
set_option linter.all false
set_option maxRecDepth 100000
set_option maxHeartbeats 4000000
namespace Go.Proofs.YtgfngchfmohhbaaDoor
open Go Go.Sx Go.RowKit Go.Proofs
def a0F (k : Nat) (out : ByteArray) : ByteArray :=
 if h : k = 0 then out else a0F (k / 10) (fZ [(48 : Int) + ((k % 10 : Nat) : Int)] ++ out)
decreasing_by omega
def iB (k : Int) : ByteArray := ⟨#[109]⟩ ++ a0F k.toNat ⟨#[]⟩
theorem fT (k : Int) (hk : 1 ≤ k ∧ k ≤ 4611686018427387904) : FnC Tryd.prog 59 [oi k] (os (iB k)) := by
 obtain ⟨n, rfl⟩ : ∃ n : Nat, k = n := ⟨k.toNat, by omega⟩
 have h0 : ¬ ((n : Int) ≤ 0) := by omega
 have hm : iB (n : Int) = ⟨#[109]⟩ ++ a0F n ⟨#[]⟩ := by simp [iB]
 rw [hm]
 generalize hq : a0F n ⟨#[]⟩ = res
 refine ent Tryd.func59 rfl Tryd.call59 rfl (fun C => ?_); simp only [go_sem, st0, Tryd.ntmps59]
 have q0 := @h0; have q1 := @decide_false; refine lC ?_
 refine bB (α := Nat × ByteArray) (fun p => [(0, oi p.1), (3, os p.2)]) (fun _ => []) (fun p => a0F p.1 p.2 = res ∧ p.2.size + p.1 ≤ n) (fun p => p.1) (n, ⟨#[]⟩) (fun _ => ?_) ?_ ?_ (fun p hp => ?_)
 ·simp only [go_sem]
 ·simp only [go_sem]; simp
 ·exact ⟨hq, by show 0 + n ≤ n; omega⟩
 ·obtain ⟨j, out⟩ := p
  obtain ⟨hp, hs⟩ := hp
  simp only at hp hs
  simp only [go_sem]
  refine aH ?_
  refine cnd rfl (fun h => ?_) (fun h => ?_)
  ·simp only [decide_eq_true_eq] at h
   have hj : j ≠ 0 := by omega
   rw [a0F, dif_neg hj] at hp
   have e1 : (j : Int).tmod 10 = ((j % 10 : Nat) : Int) := by rw [Int.tmod_eq_emod_of_nonneg (by omega)]; omega
   have e2 : (j : Int).tdiv 10 = ((j / 10 : Nat) : Int) := by rw [Int.tdiv_eq_ediv_of_nonneg (by omega)]; omega
   have q0 := @e1; have q1 := @e2; refine lC ?_
   refine aM (j / 10, fZ [(48 : Int) + ((j % 10 : Nat) : Int)] ++ out) ?_ ?_ ?_
   ·simp only [go_sem, e1, e2]; simp [fZ]
   ·refine ⟨hp, ?_⟩
    simp only [ByteArray.size_append, fZ, List.map_cons, List.map_nil, a3G, List.length_cons, List.length_nil]
    omega
   ·simp only; omega
  ·simp only [decide_eq_false_iff_not] at h
   have hj : j = 0 := by omega
   subst hj
   rw [a0F, dif_pos rfl] at hp
   subst hp
   refine aH ?_
   exact aA ⟨⟨_, rfl, by simp only [go_sem]⟩, trivial⟩
def cnInt (x : Int) : Nat := 1
theorem wE : ∀ x, 1 ≤ cnInt x := fun x => by unfold cnInt; omega
def kM (x : Int) (k : Int) : Int := k
theorem kN (l : List Int) (k : Int) (hk : 1 ≤ k ∧ k + (csum cnInt l : Nat) ≤ 4611686018427387904) : FnM Tryd.prog 31 false [.w 0 1 (l.map bN)] [.w 0 1 ((mkL kM cnInt l k).map bN)] k (k + (csum cnInt l : Nat)) := by
 have hlen := fI cnInt wE l
 refine entm Tryd.func31 rfl Tryd.call31 rfl (by simp) (by simp only [go_sem]) (fun C tg => ?_); simp only [go_sem, Tryd.ntmps31]
 refine aH ?_
 refine bB (α := Nat) (fun j => [(5, oi j), (1, oi (k + (csum cnInt (l.take j) : Nat)))]) (fun j => [(0, .own (tg 0) 1 (kY bN kM cnInt l k j))]) (fun j => j ≤ l.length) (fun j => l.length - j) 0 (fun _ => ?_) ?_ ?_ (fun j hj => ?_)
 ·simp only [go_sem]
 ·simp only [go_sem]; simp [iM, csum]
 ·simp
 ·simp only [go_sem]
  refine aH ?_
  refine cnd rfl (fun h => ?_) (fun h => ?_)
  ·simp only [decide_eq_true_eq, Int.ofNat_lt] at h
   have hs := dZ cnInt l h
   have ht := gU cnInt l (j + 1)
   have hc : cnInt l[j] = 1 := rfl
   have hset := kC bN kM cnInt l k j h
   have hkk : k + (csum cnInt (l.take (j + 1)) : Nat) = k + (csum cnInt (l.take j) : Nat) + (cnInt l[j] : Nat) := by omega
   generalize k + (csum cnInt (l.take j) : Nat) = K at hset hkk ⊢
   have hK : 1 ≤ K ∧ K + (cnInt l[j] : Nat) ≤ 4611686018427387904 := by omega
   have q0 := @h; refine gD ?_
   refine aM (j + 1) ?_ ?_ ?_
   ·simp only [go_sem, hkk, ← hset]
    simp [kM, bN, hc]
    try omega
   ·omega
   ·omega
  ·simp only [decide_eq_false_iff_not] at h
   have e : j = l.length := by omega
   subst e
   refine aH ?_
   exact ⟨⟨⟨_, rfl, by simp only [go_sem, dU, List.take_length]⟩, trivial⟩, by simp only [go_sem, dU, List.take_length]⟩
theorem pV (l : List Int) (k : Int) (hk : 1 ≤ k ∧ k + (csum cnInt l : Nat) ≤ 4611686018427387904) : FnC Tryd.prog 36 [.o (.d (.sl ((mkL kM cnInt l k).map bN))), oi k] (oi (k + (csum cnInt l : Nat))) := by
 have hlen := fI cnInt wE l
 refine ent Tryd.func36 rfl Tryd.call36 rfl (fun C => ?_); simp only [go_sem, st0, Tryd.ntmps36]
 refine aH ?_
 refine bB (α := Nat) (fun j => [(5, oi j), (1, oi (k + (csum cnInt (l.take j) : Nat)))]) (fun _ => []) (fun j => j ≤ l.length) (fun j => l.length - j) 0 (fun _ => ?_) ?_ ?_ (fun j hj => ?_)
 ·simp only [go_sem]
 ·simp only [go_sem]; simp [csum]
 ·simp
 ·simp only [go_sem]
  refine aH ?_
  refine cnd rfl (fun h => ?_) (fun h => ?_)
  ·simp only [decide_eq_true_eq, Int.ofNat_lt] at h
   have hs := dZ cnInt l h
   have ht := gU cnInt l (j + 1)
   have hc : cnInt l[j] = 1 := rfl
   have hkk : k + (csum cnInt (l.take (j + 1)) : Nat) = k + (csum cnInt (l.take j) : Nat) + (cnInt l[j] : Nat) := by omega
   have hg := mR kM cnInt l k j (by rw [bW]; exact h)
   generalize k + (csum cnInt (l.take j) : Nat) = K at hg hkk ⊢
   have hK : 1 ≤ K ∧ K + (cnInt l[j] : Nat) ≤ 4611686018427387904 := by omega
   repeat' (with_reducible first | refine nY ?_ | (refine mX ?_; try simp only [go_sem, h, hg, kM]) | refine kO ?_ (by decide) | refine a3S (by kernel_rfl) ?_ | (refine And.intro ?_ ?_; focus omega))
   refine aM (j + 1) ?_ ?_ ?_
   ·simp only [go_sem, hkk]
    simp [hc]
    try omega
   ·omega
   ·omega
  ·simp only [decide_eq_false_iff_not] at h
   have e : j = l.length := by omega
   subst e
   refine aH ?_
   exact aA ⟨⟨_, rfl, by simp only [go_sem, List.take_length]⟩, trivial⟩
def cnStr (x : ByteArray) : Nat := 1
theorem wF : ∀ x, 1 ≤ cnStr x := fun x => by unfold cnStr; omega
def tX (x : ByteArray) (k : Int) : ByteArray := (iB k)
theorem tY (l : List ByteArray) (k : Int) (hk : 1 ≤ k ∧ k + (csum cnStr l : Nat) ≤ 4611686018427387904) : FnM Tryd.prog 32 false [.w 0 1 (l.map eH)] [.w 0 1 ((mkL tX cnStr l k).map eH)] k (k + (csum cnStr l : Nat)) := by
 have hlen := fI cnStr wF l
 refine entm Tryd.func32 rfl Tryd.call32 rfl (by simp) (by simp only [go_sem]) (fun C tg => ?_); simp only [go_sem, Tryd.ntmps32]
 refine aH ?_
 refine bB (α := Nat) (fun j => [(5, oi j), (1, oi (k + (csum cnStr (l.take j) : Nat)))]) (fun j => [(0, .own (tg 0) 1 (kY eH tX cnStr l k j))]) (fun j => j ≤ l.length) (fun j => l.length - j) 0 (fun _ => ?_) ?_ ?_ (fun j hj => ?_)
 ·simp only [go_sem]
 ·simp only [go_sem]; simp [iM, csum]
 ·simp
 ·simp only [go_sem]
  refine aH ?_
  refine cnd rfl (fun h => ?_) (fun h => ?_)
  ·simp only [decide_eq_true_eq, Int.ofNat_lt] at h
   have hs := dZ cnStr l h
   have ht := gU cnStr l (j + 1)
   have hc : cnStr l[j] = 1 := rfl
   have hset := kC eH tX cnStr l k j h
   have hkk : k + (csum cnStr (l.take (j + 1)) : Nat) = k + (csum cnStr (l.take j) : Nat) + (cnStr l[j] : Nat) := by omega
   generalize k + (csum cnStr (l.take j) : Nat) = K at hset hkk ⊢
   have hK : 1 ≤ K ∧ K + (cnStr l[j] : Nat) ≤ 4611686018427387904 := by omega
   have q0 := @h; refine jK (fT K (by omega)) ?_
   refine aM (j + 1) ?_ ?_ ?_
   ·simp only [go_sem, hkk, ← hset]
    simp [tX, eH, hc]
    try omega
   ·omega
   ·omega
  ·simp only [decide_eq_false_iff_not] at h
   have e : j = l.length := by omega
   subst e
   refine aH ?_
   exact ⟨⟨⟨_, rfl, by simp only [go_sem, dU, List.take_length]⟩, trivial⟩, by simp only [go_sem, dU, List.take_length]⟩
theorem kP (l : List ByteArray) (k : Int) (hk : 1 ≤ k ∧ k + (csum cnStr l : Nat) ≤ 4611686018427387904) : FnC Tryd.prog 33 [.o (.d (.sl ((mkL tX cnStr l k).map eH))), oi k] (oi (k + (csum cnStr l : Nat))) := by
 have hlen := fI cnStr wF l
 refine ent Tryd.func33 rfl Tryd.call33 rfl (fun C => ?_); simp only [go_sem, st0, Tryd.ntmps33]
 refine aH ?_
 refine bB (α := Nat) (fun j => [(5, oi j), (1, oi (k + (csum cnStr (l.take j) : Nat)))]) (fun _ => []) (fun j => j ≤ l.length) (fun j => l.length - j) 0 (fun _ => ?_) ?_ ?_ (fun j hj => ?_)
 ·simp only [go_sem]
 ·simp only [go_sem]; simp [csum]
 ·simp
 ·simp only [go_sem]
  refine aH ?_
  refine cnd rfl (fun h => ?_) (fun h => ?_)
  ·simp only [decide_eq_true_eq, Int.ofNat_lt] at h
   have hs := dZ cnStr l h
   have ht := gU cnStr l (j + 1)
   have hc : cnStr l[j] = 1 := rfl
   have hkk : k + (csum cnStr (l.take (j + 1)) : Nat) = k + (csum cnStr (l.take j) : Nat) + (cnStr l[j] : Nat) := by omega
   have hg := mR tX cnStr l k j (by rw [bW]; exact h)
   generalize k + (csum cnStr (l.take j) : Nat) = K at hg hkk ⊢
   have hK : 1 ≤ K ∧ K + (cnStr l[j] : Nat) ≤ 4611686018427387904 := by omega
   repeat' (with_reducible first | refine nY ?_ | (refine mX ?_; try simp only [go_sem, h, hg, tX]) | refine kO ?_ (by decide) | refine a3S (by kernel_rfl) ?_ | (refine cC (fT K (by omega)) ?_ ?_; focus simp only [go_sem, and_self]; done) | (refine And.intro ?_ ?_; focus omega))
   refine aM (j + 1) ?_ ?_ ?_
   ·simp only [go_sem, hkk]
    simp [hc]
    try omega
   ·omega
   ·omega
  ·simp only [decide_eq_false_iff_not] at h
   have e : j = l.length := by omega
   subst e
   refine aH ?_
   exact aA ⟨⟨_, rfl, by simp only [go_sem, List.take_length]⟩, trivial⟩
def a6j (x : Bool) : Nat := 1
def a6k (x : Bool) (k : Int) : Bool := (decide (Int.tmod k 3 = 0))
end Go.Proofs.YtgfngchfmohhbaaDoor
end
section
set_option linter.all false
set_option maxRecDepth 100000
set_option maxHeartbeats 4000000
namespace Go.Proofs.YtgfngchfmohhbaaDoor
open Go Go.Sx Go.RowKit Go.Proofs
def cnField (x : TField) : Nat := 2
theorem zL : ∀ x, 1 ≤ cnField x := fun x => by unfold cnField; omega
def nR (x : TField) (k : Int) : TField := ⟨(iB k), (k + 1)⟩
theorem uP (l : List TField) (k : Int) (hk : 1 ≤ k ∧ k + (csum cnField l : Nat) ≤ 4611686018427387904) : FnM Tryd.prog 57 false [.w 0 2 (l.map aQ)] [.w 0 2 ((mkL nR cnField l k).map aQ)] k (k + (csum cnField l : Nat)) := by
 have hlen := fI cnField zL l
 refine entm Tryd.func57 rfl Tryd.call57 rfl (by simp) (by simp only [go_sem]) (fun C tg => ?_); simp only [go_sem, Tryd.ntmps57]
 refine aH ?_
 refine bB (α := Nat) (fun j => [(5, oi j), (1, oi (k + (csum cnField (l.take j) : Nat)))]) (fun j => [(0, .own (tg 0) 2 (kY aQ nR cnField l k j))]) (fun j => j ≤ l.length) (fun j => l.length - j) 0 (fun _ => ?_) ?_ ?_ (fun j hj => ?_)
 ·simp only [go_sem]
 ·simp only [go_sem]; simp [iM, csum]
 ·simp
 ·simp only [go_sem]
  refine aH ?_
  refine cnd rfl (fun h => ?_) (fun h => ?_)
  ·simp only [decide_eq_true_eq, Int.ofNat_lt] at h
   have hs := dZ cnField l h
   have ht := gU cnField l (j + 1)
   have hc : cnField l[j] = 2 := rfl
   have hset := kC aQ nR cnField l k j h
   have hkk : k + (csum cnField (l.take (j + 1)) : Nat) = k + (csum cnField (l.take j) : Nat) + (cnField l[j] : Nat) := by omega
   generalize k + (csum cnField (l.take j) : Nat) = K at hset hkk ⊢
   have hK : 1 ≤ K ∧ K + (cnField l[j] : Nat) ≤ 4611686018427387904 := by omega
   have q0 := @h; refine jK (fT K (by omega)) ?_
   refine aM (j + 1) ?_ ?_ ?_
   ·simp only [go_sem, hkk, ← hset]
    simp [nR, aQ, hc]
    try omega
   ·omega
   ·omega
  ·simp only [decide_eq_false_iff_not] at h
   have e : j = l.length := by omega
   subst e
   refine aH ?_
   exact ⟨⟨⟨_, rfl, by simp only [go_sem, dU, List.take_length]⟩, trivial⟩, by simp only [go_sem, dU, List.take_length]⟩
def cnAttr (x : TAttr) : Nat := 4
theorem a0G : ∀ x, 1 ≤ cnAttr x := fun x => by unfold cnAttr; omega
def oZ (x : TAttr) (k : Int) : TAttr := ⟨(iB k), ⟨(k + 1), ((k + 1) + 1), (iB (((k + 1) + 1) + 1))⟩⟩
theorem xP (l : List TAttr) (k : Int) (hk : 1 ≤ k ∧ k + (csum cnAttr l : Nat) ≤ 4611686018427387904) : FnM Tryd.prog 79 false [.w 0 4 (l.map aY)] [.w 0 4 ((mkL oZ cnAttr l k).map aY)] k (k + (csum cnAttr l : Nat)) := by
 have hlen := fI cnAttr a0G l
 refine entm Tryd.func79 rfl Tryd.call79 rfl (by simp) (by simp only [go_sem]) (fun C tg => ?_); simp only [go_sem, Tryd.ntmps79]
 refine aH ?_
 refine bB (α := Nat) (fun j => [(5, oi j), (1, oi (k + (csum cnAttr (l.take j) : Nat)))]) (fun j => [(0, .own (tg 0) 4 (kY aY oZ cnAttr l k j))]) (fun j => j ≤ l.length) (fun j => l.length - j) 0 (fun _ => ?_) ?_ ?_ (fun j hj => ?_)
 ·simp only [go_sem]
 ·simp only [go_sem]; simp [iM, csum]
 ·simp
 ·simp only [go_sem]
  refine aH ?_
  refine cnd rfl (fun h => ?_) (fun h => ?_)
  ·simp only [decide_eq_true_eq, Int.ofNat_lt] at h
   have hs := dZ cnAttr l h
   have ht := gU cnAttr l (j + 1)
   have hc : cnAttr l[j] = 4 := rfl
   have hset := kC aY oZ cnAttr l k j h
   have hkk : k + (csum cnAttr (l.take (j + 1)) : Nat) = k + (csum cnAttr (l.take j) : Nat) + (cnAttr l[j] : Nat) := by omega
   generalize k + (csum cnAttr (l.take j) : Nat) = K at hset hkk ⊢
   have hK : 1 ≤ K ∧ K + (cnAttr l[j] : Nat) ≤ 4611686018427387904 := by omega
   have q0 := @h; refine a5d (fT K (by omega)) (fT (((K + 1) + 1) + 1) (by omega)) ?_
   refine aM (j + 1) ?_ ?_ ?_
   ·simp only [go_sem, hkk, ← hset]
    simp [oZ, aY, hc]
    try omega
   ·omega
   ·omega
  ·simp only [decide_eq_false_iff_not] at h
   have e : j = l.length := by omega
   subst e
   refine aH ?_
   exact ⟨⟨⟨_, rfl, by simp only [go_sem, dU, List.take_length]⟩, trivial⟩, by simp only [go_sem, dU, List.take_length]⟩
def xQ (x : TNode) : Nat := 7
def a2L (x : TNode) (k : Int) : TNode := ⟨k, (k + 1), ((k + 1) + 1), (iB (((k + 1) + 1) + 1)), ⟨((((k + 1) + 1) + 1) + 1), (((((k + 1) + 1) + 1) + 1) + 1), (iB ((((((k + 1) + 1) + 1) + 1) + 1) + 1))⟩⟩
end Go.Proofs.YtgfngchfmohhbaaDoor
end
section
set_option linter.all false
set_option maxRecDepth 100000
set_option maxHeartbeats 4000000
namespace Go.Proofs.YtgfngchfmohhbaaDoor
open Go Go.Sx Go.RowKit Go.Proofs
def cnFile (x : TFile) : Nat := 4 + csum cnAttr x.fAttrs
theorem a0H : ∀ x, 1 ≤ cnFile x := fun x => by unfold cnFile; omega
def tZ (x : TFile) (k : Int) : TFile := ⟨k, (k + 1), (decide (Int.tmod ((k + 1) + 1) 3 = 0)), (((k + 1) + 1) + 1), (mkL oZ cnAttr x.fAttrs ((((k + 1) + 1) + 1) + 1))⟩
theorem xR (l : List TFile) (k : Int) (hk : 1 ≤ k ∧ k + (csum cnFile l : Nat) ≤ 4611686018427387904) : FnM Tryd.prog 58 false [.w 0 5 (l.map aZ)] [.w 0 5 ((mkL tZ cnFile l k).map aZ)] k (k + (csum cnFile l : Nat)) := by
 have hlen := fI cnFile a0H l
 refine entm Tryd.func58 rfl Tryd.call58 rfl (by simp) (by simp only [go_sem]) (fun C tg => ?_); simp only [go_sem, Tryd.ntmps58]
 refine aH ?_
 refine bB (α := Nat) (fun j => [(5, oi j), (1, oi (k + (csum cnFile (l.take j) : Nat)))]) (fun j => [(0, .own (tg 0) 5 (kY aZ tZ cnFile l k j))]) (fun j => j ≤ l.length) (fun j => l.length - j) 0 (fun _ => ?_) ?_ ?_ (fun j hj => ?_)
 ·simp only [go_sem]
 ·simp only [go_sem]; simp [iM, csum]
 ·simp
 ·simp only [go_sem]
  refine aH ?_
  refine cnd rfl (fun h => ?_) (fun h => ?_)
  ·simp only [decide_eq_true_eq, Int.ofNat_lt] at h
   have hs := dZ cnFile l h
   have ht := gU cnFile l (j + 1)
   have hc : cnFile l[j] = 4 + csum cnAttr l[j].fAttrs := rfl
   have hset := kC aZ tZ cnFile l k j h
   have hkk : k + (csum cnFile (l.take (j + 1)) : Nat) = k + (csum cnFile (l.take j) : Nat) + (cnFile l[j] : Nat) := by omega
   generalize k + (csum cnFile (l.take j) : Nat) = K at hset hkk ⊢
   have hK : 1 ≤ K ∧ K + (cnFile l[j] : Nat) ≤ 4611686018427387904 := by omega
   have qH := @h; repeat' (with_reducible first | refine nY ?_ | (refine mX ?_; try simp only [go_sem, qH]) | refine kD ?_ | refine rD ?_ | refine vN (xP l[j].fAttrs _ (by omega)) ?_ | refine aO ?_ | fail)
   refine aM (j + 1) ?_ ?_ ?_
   ·simp only [go_sem, hkk, ← hset]
    simp [tZ, aZ, hc]
    try omega
   ·omega
   ·omega
  ·simp only [decide_eq_false_iff_not] at h
   have e : j = l.length := by omega
   subst e
   refine aH ?_
   exact ⟨⟨⟨_, rfl, by simp only [go_sem, dU, List.take_length]⟩, trivial⟩, by simp only [go_sem, dU, List.take_length]⟩
def a6x (x : TDir) : Nat := 1 + csum xQ x.fQuery
def a6y (x : TDir) (k : Int) : TDir := ⟨(iB k), (mkL a2L xQ x.fQuery (k + 1))⟩
def a5y (x : TResult) : Nat := 1 + csum cnInt x.fIDs
def a5z (x : TResult) (k : Int) : TResult := ⟨(iB k), (mkL kM cnInt x.fIDs (k + 1))⟩
def a6l (x : TDiff) : Nat := 1 + csum cnInt x.fAdded + csum cnInt x.fRemoved
def a6m (x : TDiff) (k : Int) : TDiff := ⟨(iB k), (mkL kM cnInt x.fAdded (k + 1)), (mkL kM cnInt x.fRemoved ((k + 1) + (csum cnInt x.fAdded : Nat)))⟩
def a5O (x : TGroup) : Nat := 3 + csum cnInt x.fIDs
def a5P (x : TGroup) (k : Int) : TGroup := ⟨⟨k, (k + 1), (iB ((k + 1) + 1))⟩, (mkL kM cnInt x.fIDs (((k + 1) + 1) + 1))⟩
def a5A (x : TChange) : Nat := 7 + csum cnAttr x.fFile.fAttrs + csum xQ x.fDir.fQuery
def a5B (x : TChange) (k : Int) : TChange := ⟨k, ⟨(k + 1), ((k + 1) + 1), (decide (Int.tmod (((k + 1) + 1) + 1) 3 = 0)), ((((k + 1) + 1) + 1) + 1), (mkL oZ cnAttr x.fFile.fAttrs (((((k + 1) + 1) + 1) + 1) + 1))⟩, ((((((k + 1) + 1) + 1) + 1) + 1) + (csum cnAttr x.fFile.fAttrs : Nat)), ⟨(iB (((((((k + 1) + 1) + 1) + 1) + 1) + (csum cnAttr x.fFile.fAttrs : Nat)) + 1)), (mkL a2L xQ x.fDir.fQuery ((((((((k + 1) + 1) + 1) + 1) + 1) + (csum cnAttr x.fFile.fAttrs : Nat)) + 1) + 1))⟩⟩
end Go.Proofs.YtgfngchfmohhbaaDoor
end
section
set_option linter.all false
set_option maxRecDepth 100000
set_option maxHeartbeats 4000000
namespace Go.Proofs.YtgfngchfmohhbaaDoor
open Go Go.Sx Go.RowKit Go.Proofs
theorem nS (x : TStore) (k : Int) (hk : 1 ≤ k ∧ k + (csum cnField x.fSchema : Nat) + (csum cnFile x.fFiles : Nat) ≤ 4611686018427387904) : FnM Tryd.prog 30 true [.w 0 2 (x.fSchema.map aQ), .w 0 5 (x.fFiles.map aZ), .d (iv x.fNextID)] [.w 0 2 ((mkL nR cnField x.fSchema (k)).map aQ), .w 0 5 ((mkL tZ cnFile x.fFiles (k + (csum cnField x.fSchema : Nat))).map aZ), .d (iv x.fNextID)] k (k + (csum cnField x.fSchema : Nat) + (csum cnFile x.fFiles : Nat)) := by
 refine entm Tryd.func30 rfl Tryd.call30 rfl (by simp) (by simp only [go_sem]) (fun C tg => ?_); simp only [go_sem, Tryd.ntmps30]
 have qH := trivial; repeat' (with_reducible first | refine nY ?_ | (refine mX ?_; try simp only [go_sem]) | refine kD ?_ | refine rD ?_ | refine vM (uP x.fSchema _ (by omega)) ?_ | refine vM (xR x.fFiles _ (by omega)) ?_ | refine aO ?_ | fail)
 exact ⟨⟨⟨_, rfl, by simp only [go_sem]⟩, trivial⟩, by simp only [go_sem]⟩
end Go.Proofs.YtgfngchfmohhbaaDoor
end
section
set_option linter.all false
namespace Go.Proofs.YtgfngchfmohhbaaDoor
open Go Go.Sx Go.RowKit Go.Proofs
theorem uA {α : Type} (cn w : α → Nat) (c : Nat) (hx : ∀ x, cn x ≤ c * (1 + w x)) : ∀ l : List α, csum cn l ≤ c * (l.length + wsum w l)
 | [] => by simp [csum]
 | x :: l => by
  have h1 := uA cn w c hx l
  have h2 := hx x
  simp only [csum, wsum, List.length_cons]
  have : c * (l.length + 1 + (w x + wsum w l)) = c * (1 + w x) + c * (l.length + wsum w l) := by rw [← Nat.mul_add]; congr 1; omega
  omega
theorem gT {α : Type} (cn : α → Nat) (c : Nat) (hx : ∀ x, cn x = c) : ∀ l : List α, csum cn l = c * l.length
 | [] => by simp [csum]
 | x :: l => by
  have h1 := gT cn c hx l
  simp only [csum, List.length_cons, hx, h1, Nat.mul_add]; omega
theorem xS (l : List Int) : csum cnInt l = l.length := by rw [gT cnInt 1 (fun _ => rfl)]; omega
theorem a3D (l : List ByteArray) : csum cnStr l = l.length := by rw [gT cnStr 1 (fun _ => rfl)]; omega
theorem wG (l : List TField) : csum cnField l = 2 * l.length := gT cnField 2 (fun _ => rfl) l
theorem a2M (l : List TAttr) : csum cnAttr l = 4 * l.length := gT cnAttr 4 (fun _ => rfl) l
theorem zM (l : List TFile) : csum cnFile l ≤ 4 * (l.length + wsum wFile l) := uA cnFile wFile 4 (fun x => by
 unfold cnFile wFile bK; rw [a2M]; omega) l
end Go.Proofs.YtgfngchfmohhbaaDoor
end
end
section
set_option maxRecDepth 100000
set_option maxHeartbeats 4000000
namespace Go.Proofs.YtgfngchfmohhbaaDoor
open Go Go.Sx Go.RowKit Go.Proofs
def tV (l : List ByteArray) (s : ByteArray) : Bool := l.any fun x => decide (x = s)
theorem wD (l : List ByteArray) (s : ByteArray) (hl : l.length ≤ 4300000) : FnC Tryd.prog 52 [.o (.d (.sl (l.map eH))), os s] (oi (dF (fun x => decide (s = x)) l 0)) := by
 refine ent Tryd.func52 rfl Tryd.call52 rfl (fun C => ?_); simp only [go_sem, st0, Tryd.ntmps52]
 refine aH ?_
 refine bB (α := Nat) (fun k => [(8, oi k)]) (fun _ => []) (fun k => k ≤ l.length ∧ dF (fun x => decide (s = x)) l 0 = dF (fun x => decide (s = x)) (l.drop k) k) (fun k => l.length - k) 0 (fun _ => ?_) ?_ ?_ (fun k hk => ?_)
 ·simp only [go_sem]
 ·simp only [go_sem]; simp
 ·simp
 ·obtain ⟨hk, hq⟩ := hk
  simp only [go_sem]
  refine aH ?_
  refine cnd rfl (fun h => ?_) (fun h => ?_)
  ·simp only [decide_eq_true_eq, Int.ofNat_lt] at h
   have hd := List.drop_eq_getElem_cons h
   rw [hd, dF] at hq
   have q0 := @h; refine gD ?_
   refine cnd rfl (fun h2 => ?_) (fun h2 => ?_)
   ·refine aH ?_
    exact aA ⟨⟨_, rfl, by simp only [go_sem, hq, h2]⟩, trivial⟩
   ·refine aH ?_
    refine aM (k + 1) ?_ ?_ ?_
    ·simp only [go_sem]; simp
    ·rw [hq, h2]; exact ⟨h, by simp⟩
    ·omega
  ·simp only [decide_eq_false_iff_not] at h
   have e : k = l.length := by omega
   subst e
   simp only [List.drop_length, dF] at hq
   refine aH ?_
   exact aA ⟨⟨_, rfl, by simp only [go_sem, hq]⟩, trivial⟩
theorem zK {α : Type} (p : α → Bool) : ∀ (l : List α) (k : Nat), decide (0 ≤ dF p l k) = l.any p
 | [], _ => by simp [dF]
 | x :: xs, k => by
  simp only [dF, List.any_cons]
  by_cases h : p x = true
  ·simp [h]
  ·rw [Bool.not_eq_true] at h
   simpa [h] using zK p xs (k + 1)
theorem a2K (l : List ByteArray) (s : ByteArray) : decide (0 ≤ dF (fun x => decide (s = x)) l 0) = tV l s := by
 rw [zK]; unfold tV
 congr 1; funext x; congr 1; exact propext eq_comm
theorem xO (l : List ByteArray) (s : ByteArray) (hl : l.length ≤ 4300000) : FnC Tryd.prog 56 [.o (.d (.sl (l.map eH))), os s] (ob (tV l s)) := by
 refine ent Tryd.func56 rfl Tryd.call56 rfl (fun C => ?_); simp only [go_sem, st0, Tryd.ntmps56]
 refine qB (wD l s hl) ?_
 exact aA ⟨⟨_, rfl, by simp only [go_sem, a2K]⟩, trivial⟩
def a5x (l : List TDir) : List ByteArray := l.map TDir.fName
def uD (names : List ByteArray) (l : List TDir) : List ByteArray := (a5x l).filter fun n => !tV names n
theorem a1H (l : List Int) (s : Int) (hl : l.length ≤ 67108864) : FnC Tryd.prog 49 [.o (.d (.sl (l.map bN))), oi s] (oi (dF (fun x => decide (s = x)) l 0)) := by
 refine ent Tryd.func49 rfl Tryd.call49 rfl (fun C => ?_); simp only [go_sem, st0, Tryd.ntmps49]
 refine aH ?_
 refine bB (α := Nat) (fun k => [(8, oi k)]) (fun _ => []) (fun k => k ≤ l.length ∧ dF (fun x => decide (s = x)) l 0 = dF (fun x => decide (s = x)) (l.drop k) k) (fun k => l.length - k) 0 (fun _ => ?_) ?_ ?_ (fun k hk => ?_)
 ·simp only [go_sem]
 ·simp only [go_sem]; simp
 ·simp
 ·obtain ⟨hk, hq⟩ := hk
  simp only [go_sem]
  refine aH ?_
  refine cnd rfl (fun h => ?_) (fun h => ?_)
  ·simp only [decide_eq_true_eq, Int.ofNat_lt] at h
   have hd := List.drop_eq_getElem_cons h
   rw [hd, dF] at hq
   have q0 := @h; refine gD ?_
   refine cnd (b := decide (s = l[k])) rfl (fun h2 => ?_) (fun h2 => ?_)
   ·rw [if_pos h2] at hq
    refine aH ?_
    exact aA ⟨⟨_, rfl, by simp only [go_sem, hq]⟩, trivial⟩
   ·rw [if_neg (by simp [h2])] at hq
    refine aH ?_
    refine aM (k + 1) ?_ ?_ ?_
    ·simp only [go_sem]; simp
    ·rw [hq]; exact ⟨h, by simp⟩
    ·omega
  ·simp only [decide_eq_false_iff_not] at h
   have e : k = l.length := by omega
   subst e
   simp only [List.drop_length, dF] at hq
   refine aH ?_
   exact aA ⟨⟨_, rfl, by simp only [go_sem, hq]⟩, trivial⟩
theorem tL (n : Int) (hn : inR .i64 n) : (itoaB n).size ≤ 20 := by
 unfold inR at hn
 simp only at hn
 by_cases h0 : n = 0
 ·subst h0
  have e : itoaB 0 = ⟨#[48]⟩ := by simp [itoaB, Lib.itoa, Lib.decDigits]
  rw [e]; decide
 ·have hL : (iU n.natAbs).length ≤ 19 := mH 19 _ (by omega)
  have e : (itoaB n).size = (Lib.itoa n).length := rfl
  rw [e, nT h0]
  split
  ·rw [List.length_cons]; omega
  ·omega
theorem nQ (n : ByteArray) : ∀ l : List TAttr, (bV n l).fStr.size ≤ wsum wAttr l
 | [] => by show (⟨#[]⟩ : ByteArray).size ≤ 0; decide
 | a :: l => by
  have ih := nQ n l
  unfold bV wsum
  split
  ·unfold wAttr dL; omega
  ·omega
theorem uO (x : TFile) : (eO x).size ≤ 4 + wFile x := by
 have h := nQ ⟨#[110]⟩ x.fAttrs
 unfold eO
 split
 ·unfold wFile bK; omega
 ·have : (⟨#[102, 105, 108, 101]⟩ : ByteArray).size = 4 := rfl
  omega
def bn (s : TStore) (id : Int) : ByteArray := eO (findF id s.fFiles)
theorem xM (s : TStore) (id : Int) (hs : aJ s ≤ 1048576) : (bn s id).size ≤ 1048580 := by
 have h1 := a1a id s.fFiles
 have h2 := uO (findF id s.fFiles)
 unfold aJ at hs
 unfold bn
 omega
theorem zD (s : TStore) (id : Int) (hs : aJ s ≤ 1048576) : wFile (findF id s.fFiles) ≤ 1048576 := by
 have h1 := a1a id s.fFiles
 unfold aJ at hs
 omega
def nmK (s : TStore) (ids : List Int) (id : Int) (k : Nat) : ByteArray := if tV ((ids.take k).map (bn s)) (bn s id) then bn s id ++ ⟨#[46]⟩ ++ itoaB id else bn s id
def enN (s : TStore) (ids : List Int) (k : Nat) : List ByteArray := (List.range k).map fun i => nmK s ids (ids.getD i 0) i
theorem fH (s : TStore) (ids : List Int) (k : Nat) : (enN s ids k).length = k := by simp [enN]
theorem zG (s : TStore) (ids : List Int) (k : Nat) (h : k < ids.length) : enN s ids (k + 1) = enN s ids k ++ [nmK s ids ids[k] k] := by
 unfold enN
 rw [List.range_succ, List.map_append, List.map_cons, List.map_nil]
 have e : ids.getD k 0 = ids[k] := by simp [List.getD, h]
 rw [e]
theorem a4E (s : TStore) (ids : List Int) (n k : Nat) (h : k < n) (hk : k < (enN s ids n).length) : (enN s ids n)[k] = nmK s ids (ids.getD k 0) k := by simp [enN]
theorem a1I (l : List ByteArray) (x s : ByteArray) : tV (l ++ [x]) s = (tV l s || decide (x = s)) := by unfold tV; rw [List.any_append]; simp
theorem lI (s : TStore) (ids : List Int) (k : Nat) (h : k < ids.length) : (ids.take (k + 1)).map (bn s) = (ids.take k).map (bn s) ++ [bn s ids[k]] := by
 rw [List.take_succ_eq_append_getElem h, List.map_append]; rfl
theorem zH {ids : List Int} (h : bO ids) {k : Nat} (hk : k < ids.length) : inR .i64 ids[k] := h.2 _ (List.getElem_mem hk)
theorem tN (s : TStore) (id : Int) (hs : aJ s ≤ 1048576) : FnC Tryd.prog 53 [bH s, oi id] (os (bn s id)) := by
 have hf := zD s id hs
 have c := qE (findF id s.fFiles) hf
 have fin : eO (findF id s.fFiles) = bn s id := rfl
 have cf := zJ s id (by omega)
 generalize findF id s.fFiles = f at *
 refine ent Tryd.func53 rfl Tryd.call53 rfl (fun C => ?_); simp only [go_sem, st0, Tryd.ntmps53]
 refine a4p cf c ?_
 exact aA ⟨⟨_, rfl, by simp only [go_sem, fin]⟩, trivial⟩
theorem gZ (s : TStore) (ids : List Int) (hs : aJ s ≤ 1048576) (hi : bO ids) (hl : ids.length ≤ 1048576) : FnC Tryd.prog 28 [bH s, .o (.d (.sl (ids.map bN)))] (.o (.w 9 1 ((enN s ids ids.length).map eH))) := by
 refine ent Tryd.func28 rfl Tryd.call28 rfl (fun C => ?_); simp only [go_sem, st0, Tryd.ntmps28]
 have q0 := @bU; refine gD ?_
 refine bB (α := Nat) (fun k => [(5, .o (.s 1)), (12, .o .u), (6, .o (.s 2)), (13, .o .u), (16, oi k)]) (fun k => [(1, .row 9 1 (((ids.take k).map (bn s)).map eH) true), (2, .row 9 1 ((enN s ids k).map eH) true)]) (fun k => k ≤ ids.length) (fun k => ids.length - k) 0 (fun _ => ?_) ?_ ?_ (fun k hk => ?_)
 ·simp only [go_sem]
 ·simp only [go_sem]; simp [enN]
 ·simp
 ·simp only [go_sem]
  refine aH ?_
  refine cnd rfl (fun h => ?_) (fun h => ?_)
  ·simp only [decide_eq_true_eq, Int.ofNat_lt] at h
   have hf := zD s ids[k] hs
   have c := qF (findF ids[k] s.fFiles) hf
   have cf := zI s ids[k] (by omega)
   have ci := bZ ids[k] (zH hi h)
   have eb : eO (findF ids[k] s.fFiles) = bn s ids[k] := rfl
   rw [eb] at c
   have hbs := xM s ids[k] hs
   have hiz := tL ids[k] (zH hi h)
   have hn := zG s ids k h
   have hb := lI s ids k h
   have l1 : ((ids.take k).map (bn s)).length = k := by simp; omega
   have l2 := fH s ids k
   have e1 : (⟨#[46]⟩ : ByteArray).size = 1 := rfl
   have m1 : (bn s ids[k]).size + (⟨#[46]⟩ : ByteArray).size ≤ maxLen := by unfold maxLen; omega
   have m2 : (bn s ids[k] ++ ⟨#[46]⟩).size + (itoaB ids[k]).size ≤ maxLen := by unfold maxLen; rw [ByteArray.size_append]; omega
   have hq : nmK s ids ids[k] k = if tV ((ids.take k).map (bn s)) (bn s ids[k]) then bn s ids[k] ++ ⟨#[46]⟩ ++ itoaB ids[k] else bn s ids[k] := rfl
   have cc := xO ((ids.take k).map (bn s)) (bn s ids[k]) (by rw [l1]; omega)
   generalize findF ids[k] s.fFiles = f at *
   generalize (ids.take k).map (bn s) = bs at *
   generalize enN s ids k = out at *
   generalize bn s ids[k] = b at *
   generalize itoaB ids[k] = z at *
   have g1 : bs.length + 1 ≤ 140737488355328 := by omega
   have g2 : (bs.length + 1) * 16 ≤ 140737488355328 := by omega
   have g3 : out.length + 1 ≤ 140737488355328 := by omega
   have g4 : (out.length + 1) * 16 ≤ 140737488355328 := by omega
   cases hc : tV bs b
   ·rw [hc] at hq
    simp only [Bool.false_eq_true, if_false] at hq
    rw [hc] at cc
    have qH := aI @h (aI @g1 (aI @g2 (aI @g3 (aI @g4 @bU)))); repeat' (with_reducible first | refine nY ?_ | (refine mX ?_; try simp only [go_sem, qH]) | refine kD ?_ | refine rD ?_ | refine cP cf ?_ | refine cP c ?_ | refine vL cc ?_ | refine aO ?_ | fail)
    refine aM (k + 1) ?_ ?_ ?_
    ·simp only [go_sem, hn, hb, hq, List.map_append]; simp [eH]
    ·exact h
    ·omega
   ·rw [hc] at hq
    simp only [if_true] at hq
    rw [hc] at cc
    have qH := aI @h (aI @g1 (aI @g2 (aI @g3 (aI @g4 (aI @m1 (aI @m2 @bU)))))); repeat' (with_reducible first | refine nY ?_ | (refine mX ?_; try simp only [go_sem, qH]) | refine kD ?_ | refine rD ?_ | refine cP cf ?_ | refine cP c ?_ | refine vL cc ?_ | refine cP ci ?_ | refine aO ?_ | fail)
    refine aM (k + 1) ?_ ?_ ?_
    ·simp only [go_sem, hn, hb, hq, List.map_append]; simp [eH]
    ·exact h
    ·omega
  ·simp only [decide_eq_false_iff_not] at h
   have e : k = ids.length := by omega
   subst e
   refine aH ?_
   exact aA ⟨⟨_, rfl, by simp only [go_sem]⟩, trivial⟩
theorem iA (s : TStore) (ids : List Int) (hs : aJ s ≤ 1048576) (hi : bO ids) (hl : ids.length ≤ 1048576) : FnC Tryd.prog 27 [bH s, .o (.d (.sl (ids.map bN)))] (.o (.w 9 1 ((enN s ids ids.length).map eH))) := by
 refine ent Tryd.func27 rfl Tryd.call27 rfl (fun C => ?_); simp only [go_sem, st0, Tryd.ntmps27]
 have q0 := @bU; refine gD ?_
 refine bB (α := Nat) (fun k => [(5, .o (.s 1)), (10, .o .u), (6, oi k)]) (fun k => [(1, .row 9 1 ((enN s ids k).map eH) true)]) (fun k => k ≤ ids.length) (fun k => ids.length - k) 0 (fun _ => ?_) ?_ ?_ (fun i hi' => ?_)
 ·simp only [go_sem]
 ·simp only [go_sem]; simp [enN]
 ·simp
 ·simp only [go_sem]
  refine aH ?_
  refine cnd rfl (fun h => ?_) (fun h => ?_)
  ·simp only [decide_eq_true_eq, Int.ofNat_lt] at h
   have c := tN s ids[i] hs
   have ci := cB ids[i] (zH hi h)
   have hbs := xM s ids[i] hs
   have hiz := tL ids[i] (zH hi h)
   have hn := zG s ids i h
   have l2 := fH s ids i
   have e1 : (⟨#[46]⟩ : ByteArray).size = 1 := rfl
   have m1 : (bn s ids[i]).size + (⟨#[46]⟩ : ByteArray).size ≤ maxLen := by unfold maxLen; omega
   have m2 : (bn s ids[i] ++ ⟨#[46]⟩).size + (itoaB ids[i]).size ≤ maxLen := by unfold maxLen; rw [ByteArray.size_append]; omega
   have g3 : (enN s ids i).length + 1 ≤ 140737488355328 := by omega
   have g4 : ((enN s ids i).length + 1) * 16 ≤ 140737488355328 := by omega
   have q0 := @h; have q1 := @bU; refine xG c ?_
   refine bB (α := Nat) (fun k => [(8, os (nmK s ids ids[i] k)), (9, oi k)]) (fun _ => []) (fun k => k ≤ i) (fun k => i - k) 0 (fun _ => ?_) ?_ ?_ (fun k hk => ?_)
   ·simp only [go_sem]
   ·simp only [go_sem]; simp [nmK, tV]
   ·simp
   ·simp only [go_sem]
    refine aH ?_
    refine cnd rfl (fun h2 => ?_) (fun h2 => ?_)
    ·simp only [decide_eq_true_eq, Int.ofNat_lt] at h2
     have hk' : k < ids.length := by omega
     have c2 := tN s ids[k] hs
     have hsn := lI s ids k hk'
     have hnk : nmK s ids ids[i] (k + 1) = if bn s ids[k] = bn s ids[i] then bn s ids[i] ++ ⟨#[46]⟩ ++ itoaB ids[i] else nmK s ids ids[i] k := by
      unfold nmK
      rw [hsn, a1I]
      by_cases hh : bn s ids[k] = bn s ids[i]
      ·simp [hh]
      ·simp [hh]
     by_cases hh : bn s ids[k] = bn s ids[i]
     ·rw [if_pos hh] at hnk
      have gg : decide (bn s ids[k] = bn s ids[i]) = true := by simp [hh]
      have q0 := @h; have q1 := @hk'; have q2 := @gg; have q3 := @m1; have q4 := @m2; have q5 := @bU; refine a6c c2 ci ?_
      refine aM (k + 1) ?_ ?_ ?_
      ·simp only [go_sem, hnk]; try simp
      ·omega
      ·omega
     ·rw [if_neg hh] at hnk
      have gg : decide (bn s ids[k] = bn s ids[i]) = false := by simp [hh]
      have q0 := @h; have q1 := @hk'; have q2 := @gg; have q3 := @bU; refine a5f c2 ?_
      refine aM (k + 1) ?_ ?_ ?_
      ·simp only [go_sem, hnk]; try simp
      ·omega
      ·omega
    ·simp only [decide_eq_false_iff_not] at h2
     have e : k = i := by omega
     subst e
     have q0 := @g3; have q1 := @g4; have q2 := @bU; refine yS ?_
     refine aM (k + 1) ?_ ?_ ?_
     ·simp only [go_sem, hn, List.map_append]; simp [eH]
     ·omega
     ·omega
  ·simp only [decide_eq_false_iff_not] at h
   have e : i = ids.length := by omega
   subst e
   refine aH ?_
   exact aA ⟨⟨_, rfl, by simp only [go_sem]⟩, trivial⟩
theorem dB (s : TStore) (ids : List Int) (hs : aJ s ≤ 1048576) (hi : bO ids) (hl : ids.length ≤ 1048576) : FnC Tryd.prog 28 [bH s, .o (.d (.sl (ids.map bN)))] (.o (.d (.sl ((enN s ids ids.length).map eH)))) := (gZ s ids hs hi hl).pu (by simp only [go_sem, and_self])
theorem dC (s : TStore) (ids : List Int) (hs : aJ s ≤ 1048576) (hi : bO ids) (hl : ids.length ≤ 1048576) : FnC Tryd.prog 27 [bH s, .o (.d (.sl (ids.map bN)))] (.o (.d (.sl ((enN s ids ids.length).map eH)))) := (iA s ids hs hi hl).pu (by simp only [go_sem, and_self])
def ixI (id : Int) (l : List Int) : Int := dF (fun x => decide (id = x)) l 0
theorem ixI_cases (id : Int) (l : List Int) : (ixI id l = -1) ∨ ∃ p : Nat, ixI id l = p ∧ p < l.length := by
 rcases idxP_spec (fun x : Int => decide (id = x)) l 0 with h | ⟨k, e1, e2, e5, e6⟩
 ·exact .inl h.1
 ·exact .inr ⟨k, by unfold ixI; rw [e1]; simp, e2⟩
def a0D (s : TStore) (ids : List Int) (id : Int) : ByteArray := if ixI id ids < 0 then ⟨#[]⟩ else (enN s ids ids.length).getD (ixI id ids).toNat ⟨#[]⟩
theorem oQ (s : TStore) (ids : List Int) (id : Int) (hs : aJ s ≤ 1048576) (hi : bO ids) (hl : ids.length ≤ 1048576) : FnC Tryd.prog 22 [bH s, .o (.d (.sl (ids.map bN))), oi id] (os (a0D s ids id)) := by
 have c := dB s ids hs hi hl
 have ci := a1H ids id (by omega)
 have el : dF (fun x => decide (id = x)) ids 0 = ixI id ids := rfl
 rw [el] at ci
 have len := fH s ids ids.length
 have fin : a0D s ids id = if ixI id ids < 0 then ⟨#[]⟩ else (enN s ids ids.length).getD (ixI id ids).toNat ⟨#[]⟩ := rfl
 generalize enN s ids ids.length = nm at *
 refine ent Tryd.func22 rfl Tryd.call22 rfl (fun C => ?_); simp only [go_sem, st0, Tryd.ntmps22]
 rcases ixI_cases id ids with e | ⟨p, e, hp⟩
 ·rw [e] at ci fin
  have g : decide ((-1 : Int) < 0) = true := rfl
  have q0 := @g; refine jK ci ?_
  exact aA ⟨⟨_, rfl, by simp only [go_sem, fin]⟩, trivial⟩
 ·rw [e] at ci fin
  have g : decide ((p : Int) < 0) = false := by simp
  have hp' : p < nm.length := by omega
  have fin' : a0D s ids id = nm[p] := by rw [fin, if_neg (by omega)]; simp [List.getD, hp']
  have q0 := @g; have q1 := @hp'; have q2 := @bU; have q3 := @Int.toNat_natCast; refine a1w ci c ?_
  exact aA ⟨⟨_, rfl, by simp only [go_sem, fin']⟩, trivial⟩
theorem oU (s : TStore) (ids : List Int) (id : Int) (hs : aJ s ≤ 1048576) (hi : bO ids) (hl : ids.length ≤ 1048576) : FnC Tryd.prog 19 [bH s, .o (.d (.sl (ids.map bN))), oi id] (os (a0D s ids id)) := by
 have c := dC s ids hs hi hl
 have len := fH s ids ids.length
 have fin : a0D s ids id = if ixI id ids < 0 then ⟨#[]⟩ else (enN s ids ids.length).getD (ixI id ids).toNat ⟨#[]⟩ := rfl
 generalize enN s ids ids.length = nm at *
 refine ent Tryd.func19 rfl Tryd.call19 rfl (fun C => ?_); simp only [go_sem, st0, Tryd.ntmps19]
 have q0 := @bU; refine jK c ?_
 refine bB (α := Nat) (fun k => [(8, oi k)]) (fun _ => []) (fun k => k ≤ ids.length ∧ ixI id ids = dF (fun x => decide (id = x)) (ids.drop k) k) (fun k => ids.length - k) 0 (fun _ => ?_) ?_ ?_ (fun k hk => ?_)
 ·simp only [go_sem]
 ·simp only [go_sem]; simp
 ·simp [ixI]
 ·obtain ⟨hk, hq⟩ := hk
  simp only [go_sem]
  have q0 := @bU; refine gD ?_
  refine cnd rfl (fun h => ?_) (fun h => ?_)
  ·simp only [decide_eq_true_eq, Int.ofNat_lt] at h
   have h' : k < ids.length := by omega
   rw [List.drop_eq_getElem_cons h', dF] at hq
   by_cases h2 : ids[k] = id
   ·rw [if_pos (by simp [h2])] at hq
    have g : decide (ids[k] = id) = true := by simp [h2]
    have fin' : a0D s ids id = nm[k] := by rw [fin, hq, if_neg (by omega)]; simp [List.getD, h]
    have q0 := @h; have q1 := @h'; have q2 := @g; have q3 := @bU; refine oD ?_
    exact aA ⟨⟨_, rfl, by simp only [go_sem, fin']⟩, trivial⟩
   ·rw [if_neg (by simp only [decide_eq_true_eq]; exact fun e => h2 e.symm)] at hq
    have g : decide (ids[k] = id) = false := by simp [h2]
    have q0 := @h; have q1 := @h'; have q2 := @g; have q3 := @bU; refine oD ?_
    refine aM (k + 1) ?_ ?_ ?_
    ·simp only [go_sem]; simp
    ·rw [hq]; exact ⟨h', by simp⟩
    ·omega
  ·simp only [decide_eq_false_iff_not] at h
   have e : k = ids.length := by omega
   subst e
   simp only [List.drop_length, dF] at hq
   have fin' : a0D s ids id = ⟨#[]⟩ := by rw [fin, hq, if_pos (by omega)]
   refine aH ?_
   exact aA ⟨⟨_, rfl, by simp only [go_sem, fin']⟩, trivial⟩
def ixS (name : ByteArray) (l : List ByteArray) : Int := dF (fun x => decide (name = x)) l 0
theorem ixS_cases (name : ByteArray) (l : List ByteArray) : (ixS name l = -1) ∨ ∃ p : Nat, ixS name l = p ∧ p < l.length := by
 rcases idxP_spec (fun x : ByteArray => decide (name = x)) l 0 with h | ⟨k, e1, e2, e5, e6⟩
 ·exact .inl h.1
 ·exact .inr ⟨k, by unfold ixS; rw [e1]; simp, e2⟩
def rnI (s : TStore) (ids : List Int) (name : ByteArray) : Int := if ixS name (enN s ids ids.length) < 0 then 0 else ids.getD (ixS name (enN s ids ids.length)).toNat 0
def rnB (s : TStore) (ids : List Int) (name : ByteArray) : Bool := decide (0 ≤ ixS name (enN s ids ids.length))
theorem mE (s : TStore) (ids : List Int) (name : ByteArray) (hs : aJ s ≤ 1048576) (hi : bO ids) (hl : ids.length ≤ 1048576) : FnC Tryd.prog 26 [bH s, .o (.d (.sl (ids.map bN))), os name] (.t [(false, [.d (iv (rnI s ids name))]), (false, [.d (bv (rnB s ids name))])]) := by
 have c := dB s ids hs hi hl
 have len := fH s ids ids.length
 have ci := wD (enN s ids ids.length) name (by omega)
 have el : dF (fun x => decide (name = x)) (enN s ids ids.length) 0 = ixS name (enN s ids ids.length) := rfl
 rw [el] at ci
 have f1 : rnI s ids name = if ixS name (enN s ids ids.length) < 0 then 0 else ids.getD (ixS name (enN s ids ids.length)).toNat 0 := rfl
 have f2 : rnB s ids name = decide (0 ≤ ixS name (enN s ids ids.length)) := rfl
 generalize enN s ids ids.length = nm at *
 refine ent Tryd.func26 rfl Tryd.call26 rfl (fun C => ?_); simp only [go_sem, st0, Tryd.ntmps26]
 rcases ixS_cases name nm with e | ⟨p, e, hp⟩
 ·rw [e] at ci f1 f2
  have g : decide ((-1 : Int) < 0) = true := rfl
  have f1' : rnI s ids name = 0 := by rw [f1, if_pos (by omega)]
  have f2' : rnB s ids name = false := by rw [f2]; rfl
  have q0 := @g; refine a5d c ci ?_
  exact aA ⟨⟨_, rfl, by simp only [go_sem, f1', f2']; try simp⟩, by simp [iC]⟩
 ·rw [e] at ci f1 f2
  have g : decide ((p : Int) < 0) = false := by simp
  have hp' : p < ids.length := by omega
  have f1' : rnI s ids name = ids[p] := by rw [f1, if_neg (by omega)]; simp [List.getD, hp']
  have f2' : rnB s ids name = true := by rw [f2]; simp
  have q0 := @g; have q1 := @hp'; have q2 := @bU; have q3 := @Int.toNat_natCast; refine a1w c ci ?_
  exact aA ⟨⟨_, rfl, by simp only [go_sem, f1', f2']; try simp⟩, by simp [iC]⟩
theorem mF (s : TStore) (ids : List Int) (name : ByteArray) (hs : aJ s ≤ 1048576) (hi : bO ids) (hl : ids.length ≤ 1048576) : FnC Tryd.prog 25 [bH s, .o (.d (.sl (ids.map bN))), os name] (.t [(false, [.d (iv (rnI s ids name))]), (false, [.d (bv (rnB s ids name))])]) := by
 have c := dC s ids hs hi hl
 have len := fH s ids ids.length
 have f1 : rnI s ids name = if ixS name (enN s ids ids.length) < 0 then 0 else ids.getD (ixS name (enN s ids ids.length)).toNat 0 := rfl
 have f2 : rnB s ids name = decide (0 ≤ ixS name (enN s ids ids.length)) := rfl
 generalize enN s ids ids.length = nm at *
 refine ent Tryd.func25 rfl Tryd.call25 rfl (fun C => ?_); simp only [go_sem, st0, Tryd.ntmps25]
 have q0 := @bU; refine jK c ?_
 refine bB (α := Nat) (fun k => [(9, oi k)]) (fun _ => []) (fun k => k ≤ nm.length ∧ ixS name nm = dF (fun x => decide (name = x)) (nm.drop k) k) (fun k => nm.length - k) 0 (fun _ => ?_) ?_ ?_ (fun k hk => ?_)
 ·simp only [go_sem]
 ·simp only [go_sem]; simp
 ·simp [ixS]
 ·obtain ⟨hk, hq⟩ := hk
  simp only [go_sem]
  have q0 := @bU; refine gD ?_
  refine cnd rfl (fun h => ?_) (fun h => ?_)
  ·simp only [decide_eq_true_eq, Int.ofNat_lt] at h
   have h' : k < ids.length := by omega
   rw [List.drop_eq_getElem_cons h, dF] at hq
   by_cases h2 : nm[k] = name
   ·rw [if_pos (by simp [h2])] at hq
    have g : decide (nm[k] = name) = true := by simp [h2]
    have f1' : rnI s ids name = ids[k] := by rw [f1, hq, if_neg (by omega)]; simp [List.getD, h']
    have f2' : rnB s ids name = true := by rw [f2, hq]; simp
    have q0 := @h; have q1 := @h'; have q2 := @g; have q3 := @bU; refine oD ?_
    exact aA ⟨⟨_, rfl, by simp only [go_sem, f1', f2']; try simp⟩, by simp [iC]⟩
   ·rw [if_neg (by simp only [decide_eq_true_eq]; exact fun e => h2 e.symm)] at hq
    have g : decide (nm[k] = name) = false := by simp [h2]
    have q0 := @h; have q1 := @h'; have q2 := @g; have q3 := @bU; refine oD ?_
    refine aM (k + 1) ?_ ?_ ?_
    ·simp only [go_sem]; simp
    ·rw [hq]; exact ⟨h, by simp⟩
    ·omega
  ·simp only [decide_eq_false_iff_not] at h
   have e : k = nm.length := by omega
   subst e
   simp only [List.drop_length, dF] at hq
   have f1' : rnI s ids name = 0 := by rw [f1, hq, if_pos (by omega)]
   have f2' : rnB s ids name = false := by rw [f2, hq]; rfl
   refine aH ?_
   exact aA ⟨⟨_, rfl, by simp only [go_sem, f1', f2']; try simp⟩, by simp [iC]⟩
end Go.Proofs.YtgfngchfmohhbaaDoor
end
