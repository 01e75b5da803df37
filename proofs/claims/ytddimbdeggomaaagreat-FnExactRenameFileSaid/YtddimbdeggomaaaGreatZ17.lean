/- Joined texts. -/
import Derived.Test.YtddimbdeggomaaaGreatZ16
import Derived.Test.YtddimbdeggomaaaGreatZ15
import Derived.Test.YtddimbdeggomaaaGreatZ07
import Derived.Test.YtddimbdeggomaaaGreatZ03
import Derived.Laws.IdiomCopy
import Derived.Deep.AppendSrc
import Derived.Shelf.RegionOpenPlain
import Derived.WalkKit
import Derived.Lib.Walk
import Derived.Lib.SliceRun
import Derived.Lib.JoinLaws
import Derived.Lib.AppendZeros
import Derived.Lib.AppendZerosOnto
import Derived.Lib.Overlaps
import Derived.Laws.Externs
import Derived.Laws.NewBlocks
import Derived.Shelf.Spec.SlicesInsertGrow
import Derived.Test.YtddimbdeggomaaaGreatZ08
import Derived.Test.YtddimbdeggomaaaGreatZ11
import Derived.Test.YtddimbdeggomaaaGreatZ09
set_option linter.all false
section
set_option maxRecDepth 100000
set_option maxHeartbeats 4000000
namespace Go.Proofs.YtddimbdeggomaaaGreat
open Go Go.Sx Go.RowKit Go.Proofs Go.Sx.Clos
theorem Ac (l : List TDir) (names : List ByteArray) (h : aA l ≤ 4300000) (hB : pot l names ≤ 4300000) : FnC Tryz.prog 139 [.o (.d (.sl (l.map ax))), .o (.d (.sl (names.map ba)))] (.o (.w 9 1 ((tdS l names).map ba))) := by
 have hl : l.length ≤ 4300000 := by unfold aA at h; omega
 have hnl : names.length ≤ 4300000 := Nat.le_trans (mG l names) hB
 refine ent Tryz.func139 rfl Tryz.call139 rfl (fun C => ?_); simp only [go_sem, st0, Tryz.ntmps139]
 refine cH (nZ names hnl) ?_
 refine ak (α := Nat × List ByteArray) (fun x => [(5, .o (.s 0)), (6, oi x.1), (10, .o .u)]) (fun x => [(0, .row 9 1 (x.2.map ba) true)]) (fun x => x.1 ≤ x.2.length ∧ Good l names x.2 ∧ ∀ z ∈ x.2.take x.1, ∀ y ∈ jo l z, y ∈ x.2) (fun x => 4300001 - x.1) (0, names) (fun _ => ?_) ?_ ?_ (fun x hx => ?_)
 ·simp only [go_sem]
 ·simp only [go_sem]; simp
 ·exact ⟨Nat.zero_le _, Good.start l names, by simp⟩
 ·obtain ⟨i, o⟩ := x
  obtain ⟨hi, hg, hp⟩ := hx
  simp only at hi hg hp
  have hol : o.length ≤ 4300000 := Nat.le_trans (mG l o) (Nat.le_trans hg.le hB)
  simp only [go_sem]
  refine af ?_
  refine cnd rfl (fun h1 => ?_) (fun h1 => ?_)
  ·simp only [decide_eq_true_eq, Int.ofNat_lt] at h1
   have hoi : o[i] ∈ o.take (i + 1) := by rw [List.take_succ_eq_append_getElem h1]; exact List.mem_append_right _ List.mem_cons_self
   have hLl := wh l o[i]
   have q0 := @h1; refine cg (wd l o[i] h) ?_
   generalize hL : jo l o[i] = L at *
   refine ak (α := Nat × List ByteArray) (fun y => [(5, .o (.s 0)), (12, .o .u), (18, .o .u), (20, .o .u), (24, oi y.1)]) (fun y => [(0, .row 9 1 (y.2.map ba) true)]) (fun y => y.1 ≤ L.length ∧ Good l names y.2 ∧ y.2.take (i + 1) = o.take (i + 1) ∧ i < y.2.length ∧ (∀ z ∈ L.take y.1, z ∈ y.2) ∧ ∀ z ∈ o.take i, ∀ y' ∈ jo l z, y' ∈ y.2) (fun y => L.length - y.1) (0, o) (fun _ => ?_) ?_ ?_ (fun y hy => ?_)
   ·simp only [go_sem]
   ·simp only [go_sem]; simp
   ·exact ⟨Nat.zero_le _, hg, rfl, h1, by simp, hp⟩
   ·obtain ⟨k, q⟩ := y
    obtain ⟨hk, hgq, htk, hiq, hdn, hpq⟩ := hy
    simp only at hk hgq htk hiq hdn hpq
    have hql : q.length ≤ 4300000 := Nat.le_trans (mG l q) (Nat.le_trans hgq.le hB)
    simp only [go_sem]
    refine af ?_
    refine cnd rfl (fun h2 => ?_) (fun h2 => ?_)
    ·simp only [decide_eq_true_eq, Int.ofNat_lt] at h2
     have hqi : o[i] ∈ q := by rw [← htk] at hoi; exact List.mem_of_mem_take hoi
     have hll1 : q.length + 1 ≤ 140737488355328 := by omega
     have hll2 : (q.length + 1) * 16 ≤ 140737488355328 := by omega
     have qH := @h2; repeat' (with_reducible first | refine nY ?_ | (refine mX ?_; try simp only [go_sem, qH]) | refine kD ?_ | refine rD ?_ | refine vL (bQ q L[k] hql) ?_ | refine aO ?_ | fail)
     refine cnd (b := !hasS q L[k]) rfl (fun hv => ?_) (fun hv => ?_)
     ·have hm : ¬ L[k] ∈ q := fun hm => by rw [(d8 q L[k]).2 hm] at hv; cases hv
      have q0 := @h2; refine cw ?_
      refine ae (k + 1, q ++ [L[k]]) ?_ ?_ ?_
      ·simp only [go_sem, List.map_append]; simp
      ·refine ⟨h2, hgq.add hqi (by rw [hL]; exact List.getElem_mem h2) hm, ?_, by simp; omega, fun z hz => ?_, fun z hz y' hy' => List.mem_append_left _ (hpq z hz y' hy')⟩
       ·rw [List.take_append_of_le_length (by omega)]; exact htk
       ·rw [List.take_succ_eq_append_getElem h2] at hz
        rcases List.mem_append.1 hz with hz | hz
        ·exact List.mem_append_left _ (hdn z hz)
        ·exact List.mem_append_right _ hz
      ·simp only; omega
     ·have hm : L[k] ∈ q := (d8 q L[k]).1 (by simpa using hv)
      have q0 := @h2; refine cw ?_
      refine ae (k + 1, q) ?_ ?_ ?_
      ·simp only [go_sem]; simp
      ·refine ⟨h2, hgq, htk, hiq, fun z hz => ?_, hpq⟩
       rw [List.take_succ_eq_append_getElem h2] at hz
       rcases List.mem_append.1 hz with hz | hz
       ·exact hdn z hz
       ·simp only [List.mem_singleton] at hz; subst hz; exact hm
      ·simp only; omega
    ·simp only [decide_eq_false_iff_not] at h2
     have e : k = L.length := by omega
     subst e
     rw [List.take_length] at hdn
     refine af ?_
     refine ae (i + 1, q) ?_ ?_ ?_
     ·simp only [go_sem]; simp
     ·refine ⟨hiq, hgq, fun z hz y' hy' => ?_⟩
      simp only at hz
      rw [htk, List.take_succ_eq_append_getElem h1] at hz
      rcases List.mem_append.1 hz with hz | hz
      ·exact hpq z hz y' hy'
      ·simp only [List.mem_singleton] at hz; subst hz; rw [hL] at hy'; exact hdn y' hy'
     ·simp only; omega
  ·simp only [decide_eq_false_iff_not] at h1
   have e : i = o.length := by omega
   subst e
   rw [List.take_length] at hp
   have hd := hg.done hp
   refine cH (eH o hol) ?_
   exact aa ⟨⟨_, rfl, by simp only [go_sem, hd]⟩, trivial⟩
theorem Ad (l : List TDir) (names : List ByteArray) (h : aA l ≤ 4300000) (hB : pot l names ≤ 4300000) : FnC Tryz.prog 135 [.o (.d (.sl (l.map ax))), .o (.d (.sl (names.map ba)))] (.o (.w 9 1 ((tdS l names).map ba))) := by
 have hl : l.length ≤ 4300000 := by unfold aA at h; omega
 have hnl : names.length ≤ 4300000 := Nat.le_trans (mG l names) hB
 refine ent Tryz.func135 rfl Tryz.call135 rfl (fun C => ?_); simp only [go_sem, st0, Tryz.ntmps135]
 refine af ?_
 refine jj 5 0 rfl rfl ?_
 simp only [go_sem]
 refine ak (α := Nat) (fun k => [(5, .o (.d (.sl ((putL (names.take k)).map ba)))), (6, oi k)]) (fun _ => []) (fun k => k ≤ names.length) (fun k => names.length - k) 0 (fun _ => ?_) ?_ ?_ (fun k hk => ?_)
 ·simp only [go_sem]
 ·simp only [go_sem]; simp [putL]
 ·simp
 ·simp only [go_sem]
  refine af ?_
  have hlen : (putL (names.take k)).length ≤ 4300000 := by have h1 := dt (names.take k); simp at h1; omega
  refine cnd rfl (fun h1 => ?_) (fun h1 => ?_)
  ·simp only [decide_eq_true_eq, Int.ofNat_lt] at h1
   have ht := kc (names.take k) names[k]
   rw [← List.take_succ_eq_append_getElem h1] at ht
   have q0 := @h1; refine cg (gt (putL (names.take k)) names[k] hlen) ?_
   refine ae (k + 1) ?_ ?_ ?_
   ·simp only [go_sem, ht]; simp
   ·omega
   ·omega
  ·simp only [decide_eq_false_iff_not] at h1
   have e : k = names.length := by omega
   subst e
   rw [List.take_length] at *
   refine af ?_
   refine ak (α := Nat) (fun r => [(5, .o (.d (.sl ((g5 l names r).map ba)))), (7, oi r)]) (fun _ => []) (fun r => r ≤ l.length + 1) (fun r => l.length + 1 - r) 0 (fun _ => ?_) ?_ ?_ (fun r hr => ?_)
   ·simp only [go_sem]
   ·simp only [go_sem]; simp [g5, dK]
   ·simp
   ·simp only [go_sem]
    refine af ?_
    have hokR := lB l names r
    have hRl := Nat.le_trans (yJ hokR) hB
    refine cnd rfl (fun h2 => ?_) (fun h2 => ?_)
    ·simp only [decide_eq_true_eq, Int.ofNat_le] at h2
     refine af ?_
     refine ak (α := Nat) (fun i => [(5, .o (.d (.sl ((round putS (eD (l.take i)) (g5 l names r)).map ba)))), (8, oi i)]) (fun _ => []) (fun i => i ≤ l.length) (fun i => l.length - i) 0 (fun _ => ?_) ?_ ?_ (fun i hi => ?_)
     ·simp only [go_sem]
     ·simp only [go_sem]; simp [round, eD]
     ·simp
     ·simp only [go_sem]
      refine af ?_
      have hokI := Ai l (pot l names) i _ hokR
      refine cnd rfl (fun h3 => ?_) (fun h3 => ?_)
      ·simp only [decide_eq_true_eq, Int.ofNat_lt] at h3
       have ht := xJ l (g5 l names r) i h3
       have hq := wm l i h3
       have hqb := tY l[i].fQuery
       have hqc := dt (qD l[i].fQuery)
       generalize round putS (eD (l.take i)) (g5 l names r) = O at *
       have q0 := @h3; refine cg (xG l[i].fQuery (by omega)) ?_
       generalize putL (qD l[i].fQuery) = Q at *
       refine ak (α := Nat) (fun k => [(5, .o (.d (.sl ((askC putS l[i].fName O (Q.take k)).map ba)))), (10, oi k)]) (fun _ => []) (fun k => k ≤ Q.length) (fun k => Q.length - k) 0 (fun _ => ?_) ?_ ?_ (fun k hk => ?_)
       ·simp only [go_sem]
       ·simp only [go_sem]; simp [askC]
       ·simp
       ·simp only [go_sem]
        refine af ?_
        have hokA := Dq l (pot l names) l[i] (List.getElem_mem h3) (Q.take k) O hokI
        have hAl := Nat.le_trans (yJ hokA) hB
        refine cnd rfl (fun h4 => ?_) (fun h4 => ?_)
        ·simp only [decide_eq_true_eq, Int.ofNat_lt] at h4
         have hin := Es l[i].fName O Q k h4
         have hout := Dr l[i].fName O Q k h4
         generalize askC putS l[i].fName O (Q.take k) = A at *
         have q0 := @h3; have q1 := @h4; refine fZ (cN A Q[k] hAl) ?_
         refine cnd (b := hasS A Q[k]) rfl (fun hv => ?_) (fun hv => ?_)
         ·have hin := hin ((d8 A Q[k]).1 hv)
          have q0 := @h3; have q1 := @h4; refine fZ (gt A l[i].fName hAl) ?_
          refine ae (k + 1) ?_ ?_ ?_
          ·simp only [go_sem, hin]; simp
          ·omega
          ·omega
         ·have hout := hout (fun hm => by rw [(d8 A Q[k]).2 hm] at hv; cases hv)
          have q0 := @h3; have q1 := @h4; refine fg ?_
          refine ae (k + 1) ?_ ?_ ?_
          ·simp only [go_sem, hout]; simp
          ·omega
          ·omega
        ·simp only [decide_eq_false_iff_not] at h4
         have e : k = Q.length := by omega
         subst e
         rw [List.take_length] at *
         refine af ?_
         refine ae (i + 1) ?_ ?_ ?_
         ·simp only [go_sem, ht]; simp
         ·omega
         ·omega
      ·simp only [decide_eq_false_iff_not] at h3
       have e : i = l.length := by omega
       subst e
       rw [List.take_length] at *
       refine af ?_
       refine ae (r + 1) ?_ ?_ ?_
       ·simp only [go_sem]; simp [g5, dK]
       ·omega
       ·omega
    ·simp only [decide_eq_false_iff_not] at h2
     have e : r = l.length + 1 := by omega
     subst e
     refine af ?_
     exact aa ⟨⟨_, rfl, by simp only [go_sem, tdS]⟩, trivial⟩
theorem xA (l : List TDir) (p : TDir → Bool) (S : List ByteArray) (hS : ∀ d ∈ l, p d = true → d.fName ∈ S) : wsm wS ((l.filter p).map TDir.fName) + ea wS (eD l) S ≤ aA l := by
 unfold aA
 induction l with
 | nil => simp [wsm, eD, ea, wsum]
 | cons d l ih =>
  have ih := ih fun d' hd' => hS d' (List.mem_cons_of_mem _ hd')
  have e : wDir d = d.fName.size + bb d.fQuery := rfl
  have ee : wS d.fName = 1 + d.fName.size := rfl
  simp only [eD, List.map_cons, ea, List.filter_cons, List.length_cons, wsum] at ih ⊢
  cases hp : p d with
  | true =>
   have hm := hS d List.mem_cons_self hp
   simp only [hm, if_true, List.map_cons, wsm]; omega
  | false =>
   simp only [Bool.false_eq_true, if_false]
   split <;> omega
theorem qG (a b : TFile) (l : List TDir) : pot l (mK a b l) ≤ aA l := by
 have hgen : ∀ p : TDir → Bool, pot l ((l.filter p).map TDir.fName) ≤ aA l := fun p => xA l p _ fun d hd hp => List.mem_map.2 ⟨d, List.mem_filter.2 ⟨hd, hp⟩, rfl⟩
 unfold mK
 split
 ·exact hgen _
 ·have := hgen (fun _ => true)
  rw [List.filter_eq_self.2 (by simp)] at this
  exact this
theorem Fm (l : List TDir) (names : List ByteArray) : iw (tdS l names) ≤ pot l names := by
 have h := (lB l names (l.length + 1)).2
 unfold tdS
 rw [← BW]
 unfold pot at *
 omega
def tX (a b : TFile) (l : List TDir) : List ByteArray := tdS l (mK a b l)
theorem Ep (a b : TFile) (l : List TDir) : iw (tX a b l) ≤ aA l := Nat.le_trans (Fm l _) (qG a b l)
theorem xB (l : List TDir) (a b : TFile) (h : aA l + (wFile a + wFile b) ≤ 4300000) : FnC Tryz.prog 131 [.o (.d (.sl (l.map ax))), a8 a, a8 b] (.o (.w 9 1 ((tX a b l).map ba))) := by
 have hp := qG a b l
 refine ent Tryz.func131 rfl Tryz.call131 rfl (fun C => ?_); simp only [go_sem, st0, Tryz.ntmps131]
 refine Bc (qO l a b h) (Ac l (mK a b l) (by omega) (by omega)) ?_
 exact aa ⟨⟨_, rfl, by simp only [go_sem, tX]⟩, trivial⟩
theorem xC (l : List TDir) (a b : TFile) (h : aA l + (wFile a + wFile b) ≤ 4300000) : FnC Tryz.prog 129 [.o (.d (.sl (l.map ax))), a8 a, a8 b] (.o (.w 9 1 ((tX a b l).map ba))) := by
 have hp := qG a b l
 refine ent Tryz.func129 rfl Tryz.call129 rfl (fun C => ?_); simp only [go_sem, st0, Tryz.ntmps129]
 refine Bc (qP l a b h) (Ad l (mK a b l) (by omega) (by omega)) ?_
 exact aa ⟨⟨_, rfl, by simp only [go_sem, tX]⟩, trivial⟩
end Go.Proofs.YtddimbdeggomaaaGreat
end
section
set_option maxRecDepth 100000
set_option maxHeartbeats 4000000
namespace Go.Proofs.YtddimbdeggomaaaGreat
open Go Go.Sx Go.RowKit Go.Proofs
theorem u5 (l : List TDir) (a b : TFile) (h : aA l + (wFile a + wFile b) ≤ 4300000) : FnC Tryz.prog 131 [.o (.d (.sl (l.map ax))), a8 a, a8 b] (.o (.d (.sl ((tX a b l).map ba)))) := (xB l a b h).pu (by simp only [go_sem, and_self])
theorem u6 (l : List TDir) (a b : TFile) (h : aA l + (wFile a + wFile b) ≤ 4300000) : FnC Tryz.prog 129 [.o (.d (.sl (l.map ax))), a8 a, a8 b] (.o (.d (.sl ((tX a b l).map ba)))) := (xC l a b h).pu (by simp only [go_sem, and_self])
theorem u7 (a b : TFile) (l : List TDir) : (tX a b l).length ≤ aA l := by have := Ep a b l; unfold iw at this; omega
theorem gf (s : TStore) (f : TFile) (hs : al s ≤ 4300000) (hf : wFile f ≤ 4300000) : FnC Tryz.prog 128 [bV s, a8 f] (.t [(true, (bV (iM s f)).cells), (false, [.d (bv (dB s f))])]) := (qE s f hs hf).pu (by simp only [go_sem, and_self])
theorem bG (s : TStore) (id : Int) (h : al s ≤ 4300000) : FnC Tryz.prog 123 [bV s, oi id] (.t [(true, (a8 (aZ id s.fFiles)).cells), (false, [.d (bv (decide (0 ≤ ixF id s.fFiles)))])]) := (wb s id h).pu (by simp only [go_sem, and_self])
theorem bj (s : TStore) (id : Int) (h : al s ≤ 4300000) : FnC Tryz.prog 125 [bV s, oi id] (.t [(true, (a8 (aZ id s.fFiles)).cells), (false, [.d (bv (decide (0 ≤ ixF id s.fFiles)))])]) := (wa s id h).pu (by simp only [go_sem, and_self])
noncomputable def fh (c : TCatalog) (f : TFile) : Bool := ib c && dB c.fStore f
def ov (c : TCatalog) (f : TFile) : List ByteArray := tX (aZ f.fID c.fStore.fFiles) f c.fDirs
noncomputable def iY (c : TCatalog) (f : TFile) : TCatalog := goC (fh c f) c (iM c.fStore f) c.fDirs (ov c f)
noncomputable def pG (c : TCatalog) (f : TFile) : List TDiff := goD (fh c f) c (iM c.fStore f) c.fDirs (ov c f)
theorem kT (c : TCatalog) (f : TFile) (h : wCatalog c + wFile f ≤ 4300000) : FnC Tryz.prog 54 [aU c, a8 f] (.t [(true, (fq (iY c f)).cells), (false, [.w 158 3 ((pG c f).map dF)]), (false, [.d (bv (fh c f))])]) := by
 have hc : wCatalog c = al c.fStore + aA c.fDirs + ah c.fResults := rfl
 have hs : al c.fStore = aj c.fStore.fSchema + aT c.fStore.fFiles := rfl
 have hw := xz c.fStore f
 have hn : (ov c f).length ≤ 4300000 := by have := u7 (aZ f.fID c.fStore.fFiles) f c.fDirs; unfold ov; omega
 have hfw := kH f.fID c.fStore.fFiles
 refine ent Tryz.func54 rfl Tryz.call54 rfl (fun C => ?_); simp only [go_sem, st0, Tryz.ntmps54]
 cases h2 : dB c.fStore f
 ·have e : fh c f = false := by simp [fh, h2]
  have q0 := @h2; refine EZ (gQ c.fStore f (by omega) (by omega)) (lA c (by omega)) (fv c (by omega)) ?_
  exact aa ⟨⟨_, rfl, by simp only [go_sem, iY, pG, e, pH, pI, List.map_nil]; try simp⟩, by simp [aE]⟩
 cases h1 : ib c
 ·have e : fh c f = false := by simp [fh, h1]
  have q0 := @h1; have q1 := @h2; refine D8 (gQ c.fStore f (by omega) (by omega)) (lA c (by omega)) (fv c (by omega)) ?_
  exact aa ⟨⟨_, rfl, by simp only [go_sem, iY, pG, e, pH, pI, List.map_nil]; try simp⟩, by simp [aE]⟩
 ·have e : fh c f = true := by simp [fh, h1, h2]
  have hev : evB (iM c.fStore f) c.fDirs = true := by unfold evB; rw [E8 h1, Eo h2]; rfl
  have hk := CV c (iM c.fStore f) c.fDirs (ov c f) hev (by omega) (by omega) (by omega) hn
  have ha := u5 c.fDirs (aZ f.fID c.fStore.fFiles) f (by omega)
  unfold ov at hk
  have qH := aI @h1 @h2; repeat' (with_reducible first | refine nY ?_ | (refine mX ?_; try simp only [go_sem, qH]) | refine kD ?_ | (apply rE [8,9,13] [] [0,1,2,3,4,5,6,7] [0,1,2,3,4,5,6,7] ((.c 8 [] [0,1,2,3] (.c 9 [10,11,12] [10,11,12] (.c 13 [14,15] [14,15] .n .n) .n) .n)) (by simp only [go_sem]; rfl) (by simp only [go_sem]; rfl) (by simp only [go_sem]; rfl) (by decide +kernel); (focus simp only [go_sem]; done)) | exact cJ | refine ca (uX ?_) ?_ | refine cd (aX ?_) ?_ | refine ce (aX ?_) ?_ | exact b9 | exact oH | exact uB | refine rD ?_ | refine cP (gQ c.fStore f (by omega) (by omega)) ?_ | refine cP (lA c (by omega)) ?_ | refine cP (bj c.fStore f.fID (by omega)) ?_ | refine cP ha ?_ | refine cP hk ?_ | refine aO ?_ | fail)
  exact aa ⟨⟨_, rfl, by simp only [go_sem, iY, pG, ov, e]; try simp⟩, by simp [aE]⟩
theorem kU (c : TCatalog) (f : TFile) (h : wCatalog c + wFile f ≤ 4300000) : FnC Tryz.prog 53 [aU c, a8 f] (.t [(true, (aU (iY c f)).cells), (false, [.d (.sl ((pG c f).map dF))]), (false, [.d (bv (fh c f))])]) := by
 have hc : wCatalog c = al c.fStore + aA c.fDirs + ah c.fResults := rfl
 have hs : al c.fStore = aj c.fStore.fSchema + aT c.fStore.fFiles := rfl
 have hw := xz c.fStore f
 have hn : (ov c f).length ≤ 4300000 := by have := u7 (aZ f.fID c.fStore.fFiles) f c.fDirs; unfold ov; omega
 have hfw := kH f.fID c.fStore.fFiles
 refine ent Tryz.func53 rfl Tryz.call53 rfl (fun C => ?_); simp only [go_sem, st0, Tryz.ntmps53]
 cases h1 : ib c
 ·have e : fh c f = false := by simp [fh, h1]
  have q0 := @h1; refine E0 (dl c (by omega)) (bG c.fStore f.fID (by omega)) (gf c.fStore f (by omega) (by omega)) (eP c (by omega)) ?_
  first | refine bW (Sees.frz 1 rfl) ?_ | refine bW (Sees.frz 2 rfl) ?_ | refine bW (Sees.frz 3 rfl) ?_ | refine bW (Sees.frz 4 rfl) ?_ | refine bW (Sees.frz 5 rfl) ?_
  simp only [go_sem]
  exact aa ⟨⟨_, rfl, by simp only [go_sem, iY, pG, e, pH, pI, List.map_nil]; try simp⟩, by simp [aE]⟩
 cases h2 : dB c.fStore f
 ·have e : fh c f = false := by simp [fh, h2]
  have q0 := @h1; have q1 := @h2; refine D9 (dl c (by omega)) (bG c.fStore f.fID (by omega)) (gf c.fStore f (by omega) (by omega)) (eP c (by omega)) ?_
  first | refine bW (Sees.frz 1 rfl) ?_ | refine bW (Sees.frz 2 rfl) ?_ | refine bW (Sees.frz 3 rfl) ?_ | refine bW (Sees.frz 4 rfl) ?_ | refine bW (Sees.frz 5 rfl) ?_
  simp only [go_sem]
  exact aa ⟨⟨_, rfl, by simp only [go_sem, iY, pG, e, pH, pI, List.map_nil]; try simp⟩, by simp [aE]⟩
 ·have e : fh c f = true := by simp [fh, h1, h2]
  have ha := u6 c.fDirs (aZ f.fID c.fStore.fFiles) f (by omega)
  have hk := tv c (iM c.fStore f) c.fDirs (ov c f) (by omega) (by omega) (by omega) hn
  unfold ov at hk
  have qH := aI @h1 @h2; repeat' (with_reducible first | refine nY ?_ | (refine mX ?_; try simp only [go_sem, qH]) | refine kD ?_ | (apply rE [8,9,13,14] [] [0,1,2,3,4,5,6,7] [0,1,2,3,4,5,6,7] ((.c 8 [] [0,1,2,3] (.c 9 [10,11,12] [10,11,12] (.c 13 [] [10,11,12] (.c 14 [15] [12,15] .n .n) .n) (.c 13 [] [0,1,2,3] (.c 9 [10,11,12] [10,11,12] (.c 14 [15] [12,15] .n .n) .n) .n)) (.c 13 [] [0,1,2,3,4,5,6,7] (.c 8 [] [0,1,2,3] (.c 9 [10,11,12] [10,11,12] (.c 14 [15] [12,15] .n .n) .n) .n) .n))) (by simp only [go_sem]; rfl) (by simp only [go_sem]; rfl) (by simp only [go_sem]; rfl) (by decide +kernel); (focus simp only [go_sem]; done)) | exact cJ | refine ca (uX ?_) ?_ | refine cd (aX ?_) ?_ | refine ce (aX ?_) ?_ | exact b9 | exact oH | exact uB | refine rD ?_ | refine cP (dl c (by omega)) ?_ | refine cP (bG c.fStore f.fID (by omega)) ?_ | refine cP (gf c.fStore f (by omega) (by omega)) ?_ | refine cP (eP c (by omega)) ?_ | refine cP ha ?_ | refine cP hk ?_ | refine aO ?_ | fail)
  exact aa ⟨⟨_, rfl, by simp only [go_sem, iY, pG, ov, e, yh, yj]; try simp⟩, by simp [aE]⟩
theorem Dz (c : TCatalog) (f : TFile) (h : wCatalog c + wFile f ≤ 4300000) : al (iY c f).fStore ≤ 8600000 ∧ aA (iY c f).fDirs ≤ 8600000 ∧ ah (iY c f).fResults ≤ 8600000 ∧ fH (pG c f) ≤ 8600000 := by
 have hc : wCatalog c = al c.fStore + aA c.fDirs + ah c.fResults := rfl
 have hw := xz c.fStore f
 exact FQ _ c _ _ _ (fun e => by unfold fh at e; rw [Bool.and_eq_true] at e; exact e.1) (by omega) (by omega) (by omega)
end Go.Proofs.YtddimbdeggomaaaGreat
end
section
set_option maxRecDepth 100000
namespace Go.Sx
open Go Go.RowKit
theorem jq {P : Program} (w : World) (dT sT ty elem : TypeId) (k b o dLen dCap : Nat) (a : Addr) (sLen sCap : Nat) (cs : List Value)
    (hu : P.underlying dT = some (.slice elem)) (hs : (P.info? elem).map (·.size) = some k) (hn : cs.length = Nat.min sLen dLen * k)
    (hsrc : ∀ j v, cs[j]? = some v → w.cell? (a.add j) = some v) (hc : ∀ j, j < cs.length → (w.cell? ⟨b, o + j, none⟩).isSome = true) (hf : ∀ j, j < cs.length → w.frozen? ⟨b, o + j, none⟩ = false) (h1 : ∀ v ∈ cs, v.oneCell' = true) :
    (Builtin.copy_ #[dT, sT] ty #[.slice (some ⟨b, o, none⟩) dLen dCap, .slice (some a) sLen sCap]).run P w = .ok (goInt (Nat.min sLen dLen)) (w.setCells b o cs) := by
 have hl := run_loadCells_list (P := P) w a cs hsrc
 have hst := run_storeCells_cells (P := P) b o cs 0 w (by simpa using hc) (by simpa using hf) h1
 rw [hn] at hl
 cases hq : P.info? elem with
 | none => simp [hq] at hs
 | some i =>
  have hi : i.size = k := by simpa [hq] using hs
  simp [Builtin.copy_, run_underlying hu, Builtin.lenOf, Builtin.firstCells, sizeOf, typeInfo, hq, hi, hl, hst]
theorem wn {P : Program} (w : World) (t e ty : TypeId) (z : Value) (ht : P.underlying t = some (.slice e)) (hv : ∀ w, (zeroValue e).run P w = .ok z w) (b o n c : Nat) (hn : 0 < n)
    (hc : ∀ j, j < n * z.cells.size → (w.cell? ⟨b, o + j, none⟩).isSome = true) (hf : ∀ j, j < n * z.cells.size → w.frozen? ⟨b, o + j, none⟩ = false) (h1 : ∀ v ∈ (Builtin.zeroCells z.cells n).toList, v.oneCell' = true) :
    (Builtin.clear_ #[t] ty #[.slice (some ⟨b, o, none⟩) n c]).run P w = .ok (.tuple #[]) (w.setCells b o (Builtin.zeroCells z.cells n).toList) := by
 have hl : (Builtin.zeroCells z.cells n).toList.length = n * z.cells.size := by simp [Builtin.zeroCells]
 have hst := run_storeCells_cells (P := P) b o (Builtin.zeroCells z.cells n).toList 0 w (by rw [hl]; simpa using hc) (by rw [hl]; simpa using hf) h1
 simp only [Nat.add_zero] at hst
 obtain ⟨m, rfl⟩ : ∃ m, n = m + 1 := ⟨n - 1, by omega⟩
 simp [Builtin.clear_, run_underlying ht, hv, hst]
theorem k8 (z : Array Value) (n : Nat) : (Builtin.zeroCells z n).toList.length = n * z.size := by simp [Builtin.zeroCells]
theorem rA {z : Array Value} (h : ∀ v ∈ z.toList, v.oneCell' = true) (n : Nat) : ∀ v ∈ (Builtin.zeroCells z n).toList, v.oneCell' = true := by
 intro v hv
 obtain ⟨j, hj, rfl⟩ := List.mem_iff_getElem.1 hv
 rw [k8] at hj
 have hz : 0 < z.size := by
  rcases Nat.eq_zero_or_pos z.size with e | e
  ·rw [e] at hj; omega
  ·exact e
 have hm : j % z.size < z.size := Nat.mod_lt _ hz
 simp only [Builtin.zeroCells, Array.toList_map, Array.toList_range, List.getElem_map, List.getElem_range]
 rw [getElem!_pos z (j % z.size) hm]
 exact h _ (by simp)
theorem LayL.take {V : View} {ds : List D} {ys : List Value} {Ss : List (List Nat)} (h : LayL V ds ys Ss) (n : Nat) : LayL V (ds.take n) (ys.take n) (Ss.take n) :=
 ⟨by simp [h.1], by simp [h.2.1], fun k d y S h1 h2 h3 => by
  rw [List.getElem?_take] at h1 h2 h3
  split at h1
  ·rw [if_pos ‹_›] at h2 h3; exact h.2.2 k d y S h1 h2 h3
  ·cases h1⟩
theorem LayL.drop {V : View} {ds : List D} {ys : List Value} {Ss : List (List Nat)} (h : LayL V ds ys Ss) (n : Nat) : LayL V (ds.drop n) (ys.drop n) (Ss.drop n) :=
 ⟨by simp [h.1], by simp [h.2.1], fun k d y S h1 h2 h3 => by
  rw [List.getElem?_drop] at h1 h2 h3
  exact h.2.2 _ d y S h1 h2 h3⟩
theorem qU {α : Type} {sz : Nat} : ∀ {rows : List (List α)}, (∀ r ∈ rows, r.length = sz) → rows.flatten.length = rows.length * sz
 | [], _ => by simp
 | r :: rows, h => by
  rw [List.flatten_cons, List.length_append, qU (fun r hr => h r (by simp [hr])), h r (by simp), List.length_cons, Nat.add_mul]; omega
theorem nC {α : Type} {sz : Nat} : ∀ {rows : List (List α)} (i : Nat), (∀ r ∈ rows, r.length = sz) → (rows.take i).flatten = rows.flatten.take (i * sz)
 | [], i, _ => by simp
 | r :: rows, 0, h => by simp
 | r :: rows, i + 1, h => by
  have e := h r (by simp)
  rw [List.take_succ_cons, List.flatten_cons, List.flatten_cons, nC i (fun r hr => h r (by simp [hr])), List.take_append, List.take_of_length_le (l := r) (by rw [e, Nat.add_mul]; omega)]
  congr 2
  rw [e, Nat.add_mul]; omega
theorem gy {α : Type} {sz : Nat} : ∀ {rows : List (List α)} (i : Nat), (∀ r ∈ rows, r.length = sz) → (rows.drop i).flatten = rows.flatten.drop (i * sz)
 | [], i, _ => by simp
 | r :: rows, 0, h => by simp
 | r :: rows, i + 1, h => by
  have e := h r (by simp)
  rw [List.drop_succ_cons, List.flatten_cons, gy i (fun r hr => h r (by simp [hr])), List.drop_append, List.drop_of_length_le (l := r) (by rw [e, Nat.add_mul]; omega), List.nil_append]
  congr 1
  rw [e, Nat.add_mul]; omega
theorem RowAt.drew {w wr : World} {b ty N : Nat} {F : List Value} (h : RowAt w wr b ty N F) : RowAt w wr.drew b ty N F := by
 obtain ⟨c, h1, h2, h3⟩ := h.cells
 exact ⟨⟨c, h1, h2, h3⟩, hJ h.grown ⟨rfl, rfl, rfl, Nat.le_refl _, fun _ _ _ => rfl⟩⟩
theorem RowAt.shape {w wr : World} {b ty N : Nat} {F : List Value} (h : RowAt w wr b ty N F) : wr.shape? b = some (ty, N) := by
 obtain ⟨c, h1, h2, h3⟩ := h.cells
 simp [World.shape?, h1, h2]
theorem RowAt.pre {w wr : World} {b ty N : Nat} {F G : List Value} (h : RowAt w wr b ty N F) (hp : G <+: F) : RowAt w wr b ty N G := by
 obtain ⟨c, h1, h2, h3⟩ := h.cells
 exact ⟨⟨c, h1, h2, hp.trans h3⟩, h.grown⟩
theorem qV {V : View} {w : World} {ty sz : Nat} {rows : List (List D)} {y : Value} {S : List Nat} (h : RowR V w ty sz rows y S) :
    (∀ r ∈ rows, r.length = sz) ∧ ((((∃ ao, y = .slice ao 0 0) ∧ rows = [] ∧ S = [])) ∨ ∃ b cap ys Ss, y = .slice (some ⟨b, 0, none⟩) rows.length cap ∧ rows.length ≤ cap ∧ cap ≤ maxLen ∧ RowAt w w b ty (cap * sz) ys ∧ ys.length = rows.length * sz ∧ LayL V rows.flatten ys Ss ∧ V b = none ∧ S = b :: Ss.flatten) := by
 obtain ⟨h0, ys, Ss, h1, h3⟩ := h
 refine ⟨h0, ?_⟩
 rcases h3 with h3 | ⟨b, cap, c, rfl, e3, e4, e5, e6, e7, e8, rfl⟩
 ·exact .inl h3
 ·exact .inr ⟨b, cap, ys, Ss, rfl, e3, e4, ⟨⟨c, e5, e6, e7⟩, ma w _⟩, by rw [h1.1, qU h0], h1, e8, rfl⟩
theorem xN {V : View} {w w' : World} {ty sz b cap : Nat} {rows : List (List D)} {ys : List Value} {Ss : List (List Nat)} {G : List Value} (hu : ∀ r ∈ rows, r.length = sz) (hl : LayL V rows.flatten ys Ss) (h : RowAt w w' b ty (cap * sz) (ys ++ G)) (hn : rows.length ≤ cap) (hcap : cap ≤ maxLen) (hV : V b = none) :
    RowR V w' ty sz rows (.slice (some ⟨b, 0, none⟩) rows.length cap) (b :: Ss.flatten) := by
 obtain ⟨c, h1, h2, h3⟩ := h.cells
 exact ⟨hu, ys, Ss, hl, .inr ⟨b, cap, c, rfl, hn, hcap, h1, h2, (List.prefix_append _ _).trans h3, hV, rfl⟩⟩
theorem Dv {V : View} {w : World} {ty sz b cap : Nat} {rows : List (List D)} {ys : List Value} {Ss : List (List Nat)} (hu : ∀ r ∈ rows, r.length = sz) (hl : LayL V rows.flatten ys Ss) (hn : rows.length ≤ cap) (hcap : cap ≤ maxLen) (hV : V b = none) :
    ∃ S, Lay (jT V b ys) (.sl rows) (.slice (some ⟨b, 0, none⟩) rows.length cap) S := by
 have hl' := hl.mono (pK hV ys)
 exact ⟨_, .sl rows ⟨b, 0, none⟩ cap sz ys Ss hu hn hcap hl'.1 hl'.2.1 (fun k y hk => by
  have : (Addr.add ⟨b, 0, none⟩ k) = ⟨b, k, none⟩ := by rw [Addr.add_lit, Nat.zero_add]
  rw [this]
  simp only [View.cell, jT, if_true]
  simpa using hk) hl'.2.2⟩
theorem km {w w' : World} {r : Option Nat} (h : w.grownBy w' (some w.heap.size)) : w.grownBy w' r :=
 ⟨h.os, h.tape, h.output, h.size, fun k hk _ => h.block k hk fun e => by cases e; omega⟩
theorem xO (w : World) (o : Obj) : (w.alloc o).drew = w.drew.alloc o := rfl
theorem RowAt.freshd (w : World) (c : Array Value) (ty : Nat) : RowAt w (w.drew.alloc (.cells c ty)) w.heap.size ty c.size c.toList := by
 have hh : (w.drew.alloc (.cells c ty)).heap = w.heap.push (.cells c ty) := rfl
 refine ⟨⟨c, by rw [hh, Array.getElem?_push, if_pos rfl], rfl, List.prefix_refl _⟩, rfl, rfl, rfl, by rw [hh, Array.size_push]; omega, fun k hk _ => ?_⟩
 rw [hh, Array.getElem?_push, if_neg (Nat.ne_of_lt hk)]
theorem Dw {V : View} {rows : List (List D)} {r : List D} {ys vs : List Value} {Ss Ts : List (List Nat)} {k : Nat} (i : Nat) (hu : ∀ r ∈ rows, r.length = k) (hl : LayL V rows.flatten ys Ss) (hl2 : LayL V r vs Ts) :
    LayL V (rows.take i ++ r :: rows.drop i).flatten (ys.take (i * k) ++ vs ++ ys.drop (i * k)) (Ss.take (i * k) ++ Ts ++ Ss.drop (i * k)) := by
 have h := ((hl.take (i * k)).append hl2).append (hl.drop (i * k))
 rw [← nC i hu, ← gy i hu] at h
 simpa [List.append_assoc] using h
theorem B5 (Ss Ts : List (List Nat)) (n : Nat) : (Ss.take n ++ Ts ++ Ss.drop n).flatten.Perm (Ss.flatten ++ Ts.flatten) := by
 have e : Ss.flatten = (Ss.take n).flatten ++ (Ss.drop n).flatten := by rw [← List.flatten_append, List.take_append_drop]
 rw [e, List.flatten_append, List.flatten_append, List.append_assoc, List.append_assoc]
 exact List.Perm.append_left _ List.perm_append_comm
theorem qW {V : View} {w w' : World} {ty sz b cap : Nat} {rows : List (List D)} {r : List D} {ys vs : List Value} {Ss Ts : List (List Nat)} {S S2 : List Nat} {i : Nat} (hi : i ≤ rows.length) (hu : ∀ r ∈ rows, r.length = sz) (hr : r.length = sz) (hl : LayL V rows.flatten ys Ss) (hl2 : LayL V r vs Ts)
    (h : RowAt w w' b ty (cap * sz) (ys.take (i * sz) ++ vs ++ ys.drop (i * sz))) (hn : rows.length + 1 ≤ cap) (hcap : cap ≤ maxLen) (hV : V b = none) (hb : b ∈ S ∨ (w.heap.size ≤ b ∧ b < w'.heap.size)) (hS : ∀ n ∈ Ss.flatten, n ∈ S) (hT : ∀ n ∈ Ts.flatten, n ∈ S2) (hnd : (b :: (Ss.flatten ++ Ts.flatten)).Nodup) :
    ∃ S', RowR V w' ty sz (rows.take i ++ r :: rows.drop i) (.slice (some ⟨b, 0, none⟩) (rows.length + 1) cap) S' ∧ S'.Nodup ∧ ∀ n ∈ S', n ∈ S ∨ n ∈ S2 ∨ (w.heap.size ≤ n ∧ n < w'.heap.size) := by
 have hlen : (rows.take i ++ r :: rows.drop i).length = rows.length + 1 := by simp; omega
 have hup := xN (cap := cap) (G := []) (w := w) (fun x hx => by
  rcases List.mem_append.1 hx with h' | h'
  ·exact hu x (List.mem_of_mem_take h')
  ·rcases List.mem_cons.1 h' with rfl | h'
   ·exact hr
   ·exact hu x (List.mem_of_mem_drop h')) (Dw i hu hl hl2) (by simpa using h) (by rw [hlen]; exact hn) hcap hV
 rw [hlen] at hup
 have hp := B5 Ss Ts (i * sz)
 refine ⟨_, hup, ?_, fun n hn' => ?_⟩
 ·exact (hp.cons b).nodup_iff.2 hnd
 ·rcases List.mem_cons.1 hn' with rfl | hn'
  ·rcases hb with hb | hb
   ·exact .inl hb
   ·exact .inr (.inr hb)
  ·rcases List.mem_append.1 (hp.mem_iff.1 hn') with h' | h'
   ·exact .inl (hS n h')
   ·exact .inr (.inl (hT n h'))
end Go.Sx
end
section
namespace Go.Proofs.YtddimbdeggomaaaGreat
open Go Go.Sx Go.RowKit Go.Proofs Go.Lib
set_option maxHeartbeats 4000000 in
set_option maxRecDepth 1000000 in
theorem rz (b c i vb vc n : Nat) (F vs : List Value) (w : World) (hi : i < n) (hroom : n + 1 ≤ c) (hc63 : c ≤ 9223372036854775807) (hvb : vb ≠ b) (hvc : 1 ≤ vc)
    (hF : F.length = n * 4) (hv : vs.length = 4) (hR : RowAt w w b 181 (c * 4) F) (hV : RowAt w w vb 181 (vc * 4) vs) (h1F : ∀ v ∈ F, v.oneCell' = true) (h1v : ∀ v ∈ vs, v.oneCell' = true) :
    Calls Tryz.prog 211 #[.slice (some ⟨b, 0, none⟩) n c, .int .i64 i, .slice (some ⟨vb, 0, none⟩) 1 vc] w fun e w' =>
     e = .returned (.slice (some ⟨b, 0, none⟩) (n + 1) c) ∧ RowAt w w' b 181 (c * 4) (F.take (i * 4) ++ vs ++ F.drop (i * 4)) := by
 have hz2 : ¬ ((i : Int) = (n : Int)) := by omega
 have hsz : (Tryz.prog.info? 181).map (·.size) = some 4 := by kernel_rfl
 have hsa := hV.shape
 have hsb := hR.shape
 have hov : ∀ x lb cb, (callFunc 275 #[.slice (some ⟨vb, 0, none⟩) 1 vc, .slice (some ⟨b, x, none⟩) lb cb]).run Tryz.prog w = .ok (.value (.bool false)) w := fun x lb cb => by
  rw [run_callFunc_extern Tryz.func275 (by kernel_rfl) (by kernel_rfl) (by kernel_rfl) (e := Extern.SlicesOverlaps.overlaps #[71, 71] #[4]) (by kernel_rfl),
   Lib.run_overlaps_apart w 71 4 181 Tryz.underlying71 4 Tryz.sizeOf181 ⟨vb, 0, none⟩ ⟨b, x, none⟩ 1 vc lb cb hvb _ _ _ _ hsa hsb (by omega) (hV.frozen _) (hV.frozen _)]
  rfl
 have hdl : (F.drop (i * 4)).length = (n - i) * 4 := by rw [List.length_drop, hF, Nat.sub_mul]
 have mixed := fol
 have hw1 : IntKind.i64.wrap ((i : Int) + 1) = (i : Int) + 1 := by rw [IntKind.wrap_i64]; omega
 have hb1 : (0 : Int) ≤ (i : Int) + 1 := by omega
 have hin : i ≤ n := by omega
 have htn : ((i : Int) + 1).toNat = i + 1 := by omega
 have hb2 : ¬ (c = i + 1) := by omega
 have hb3 : (i : Int) ≤ (n : Int) + 1 := by omega
 have hb4 : ¬ (c = i) := by omega
 have hcp1 : ∀ ty dc sc, (Builtin.copy_ #[71, 71] ty #[.slice (some ⟨b, (i + 1) * 4, none⟩) (n - i) dc, .slice (some ⟨b, i * 4, none⟩) (n + 1 - i) sc]).run Tryz.prog w.drew = .ok (goInt (Nat.min (n + 1 - i) (n - i))) (w.drew.setCells b ((i + 1) * 4) (F.drop (i * 4))) := fun ty dc sc =>
  jq w.drew _ _ ty 181 4 b ((i + 1) * 4) (n - i) dc ⟨b, i * 4, none⟩ (n + 1 - i) sc (F.drop (i * 4)) Tryz.underlying71 hsz (by rw [hdl]; simp only [Nat.min_def]; split <;> omega)
   (fun j v hj => by rw [Addr.add_lit]; exact hR.cell (by rwa [List.getElem?_drop] at hj))
   (fun j hj => hR.there (by omega)) (fun j hj => hR.frozen _) (fun v hv => h1F v (List.mem_of_mem_drop hv))
 have hR1 := hR.drew.set (F.drop (i * 4)) (s := (i + 1) * 4) (by omega) (by omega)
 obtain ⟨W1, hW1⟩ : ∃ W1, W1 = w.drew.setCells b ((i + 1) * 4) (F.drop (i * 4)) := ⟨_, rfl⟩
 rw [← hW1] at hcp1 hR1
 have hV1 : ∀ j v, vs[j]? = some v → W1.cell? ⟨vb, j, none⟩ = some v := fun j v hj => by
  rw [hW1, World.cell?_setCells_out b _ _ _ _ (fun h _ => absurd h hvb)]
  exact hV.cell hj
 have hcp2 : ∀ (W : World), (∀ x, W.cell? x = W1.cell? x) → (∀ x, W.frozen? x = W1.frozen? x) → ∀ ty dc, (Builtin.copy_ #[71, 71] ty #[.slice (some ⟨b, i * 4, none⟩) (n + 1 - i) dc, .slice (some ⟨vb, 0, none⟩) 1 vc]).run Tryz.prog W = .ok (goInt (Nat.min 1 (n + 1 - i))) (W.setCells b (i * 4) vs) := fun W hWc hWf ty dc =>
  jq W _ _ ty 181 4 b (i * 4) (n + 1 - i) dc ⟨vb, 0, none⟩ 1 vc vs Tryz.underlying71 hsz (by rw [hv]; simp only [Nat.min_def]; split <;> omega)
   (fun j v hj => by rw [Addr.add_lit, hWc, Nat.zero_add]; exact hV1 j v hj)
   (fun j hj => by rw [hWc]; exact hR1.there (by omega)) (fun j hj => by rw [hWf]; exact hR1.frozen _) h1v
 have HE : Aside (∀ W : World, RowAt w W b 181 (c * 4) (F.take ((i + 1) * 4) ++ F.drop (i * 4) ++ F.drop ((i + 1) * 4 + (F.drop (i * 4)).length)) → RowAt w (W.setCells b (i * 4) vs) b 181 (c * 4) (F.take (i * 4) ++ vs ++ F.drop (i * 4))) := fun W hW => by
  have h := hW.set vs (s := i * 4) (by simp; omega) (by omega)
  have e1 : F.drop ((i + 1) * 4 + (F.drop (i * 4)).length) = [] := List.drop_of_length_le (by rw [hdl]; omega)
  rw [e1, List.append_nil] at h
  rw [List.take_append_of_le_length (by simp; omega), List.take_take, Nat.min_eq_left (by omega), List.drop_append, List.drop_of_length_le (by simp; omega), List.nil_append, List.length_take] at h
  rwa [show i * 4 + vs.length - min ((i + 1) * 4) F.length = 0 by omega, List.drop_zero] at h
 have H1 : Aside _ := hR1
 clear hR1 hV1 hW1 hsa hsb hR hV h1F h1v
 go_enter Tryz.func211, Tryz.ntmps211
 go_wp2_with (simp only [hov])
 go_region_law_o (refine step_copy_runI rfl _ _ 71 71 rfl _ _ (by simp [Act.eval, Act.put]) (by simp [Act.eval, Act.put]) (hcp1 _ _ _) ?_)
 go_wp2_with (at_builtin; refine wpList_copy_runI _ rfl _ _ 71 71 rfl _ _ rfl rfl (hcp2 _ (fun _ => rfl) (fun _ => rfl) _ _) ?_)
 go_ret
 exact ⟨rfl, HE.out _ H1.out⟩
set_option maxHeartbeats 4000000 in
set_option maxRecDepth 1000000 in
theorem ua (b n c vb vc : Nat) (F vs : List Value) (w : World) (hroom : n + 1 ≤ c) (hc63 : c ≤ 9223372036854775807)
    (hF : F.length = n * 4) (hv : vs.length = 4) (hR : RowAt w w b 181 (c * 4) F) (hV : RowAt w w vb 181 (vc * 4) vs) (h1v : ∀ v ∈ vs, v.oneCell' = true) :
    Calls Tryz.prog 211 #[.slice (some ⟨b, 0, none⟩) n c, .int .i64 n, .slice (some ⟨vb, 0, none⟩) 1 vc] w fun e w' =>
     e = .returned (.slice (some ⟨b, 0, none⟩) (n + 1) c) ∧ RowAt w w' b 181 (c * 4) (F ++ vs) := by
 obtain ⟨i0, hi0, hzs⟩ : ∃ i0, Tryz.prog.info? 181 = some i0 ∧ i0.size = 4 := ⟨Tryz.t181, by kernel_rfl, rfl⟩
 have hsrc : Src Tryz.prog i0.size 71 (.slice (some ⟨vb, 0, none⟩) 1 vc) 1 vs w := Src.ofSlice w Tryz.underlying71 ⟨vb, 0, none⟩ 1 vc vs (by rw [hzs]; omega) (fun j u hj => by rw [Addr.add_lit, Nat.zero_add]; exact hV.cell hj) h1v
 have hrun : ∀ ty, (Builtin.append_ #[71, 71] ty #[.slice (some ⟨b, 0, none⟩) n c, .slice (some ⟨vb, 0, none⟩) 1 vc]).run Tryz.prog w = .ok (.slice (some ⟨b, 0, none⟩) (n + 1) c) (w.setCells b (0 + n * i0.size) vs) := fun ty =>
  run_append_room_src w 71 71 ty 181 i0 Tryz.underlying71 hi0 b 0 n c _ 1 vs hsrc hroom (fun j hj => hR.there (by rw [hzs]; omega)) (fun j hj => hR.frozen _)
 rw [hzs, Nat.zero_add] at hrun
 have HE : Aside (RowAt w (w.setCells b (n * 4) vs) b 181 (c * 4) (F ++ vs)) := by
  have h := hR.set vs (s := n * 4) (by omega) (by omega)
  rwa [List.take_of_length_le (by omega), List.drop_of_length_le (by omega), List.append_nil] at h
 clear hR hV h1v hsrc
 go_enter Tryz.func211, Tryz.ntmps211
 go_wp2_with (at_builtin; refine Lib.wpList_append_run _ rfl _ _ _ _ rfl _ _ rfl rfl _ _ (hrun _) ?_)
 go_ret
 exact ⟨rfl, HE.out⟩
set_option maxHeartbeats 4000000 in
set_option maxRecDepth 1000000 in
theorem oh (base : Option Addr) (n c vb vc : Nat) (F vs : List Value) (w : World) (hnc : n ≤ c) (hroom : c < n + 1) (hbig : (n + 1) * 48 ≤ 140737488355328)
    (hF : F.length = n * 4) (hv : vs.length = 4) (hnil : base = none → n = 0) (hcs : ∀ a, base = some a → ∀ j v, F[j]? = some v → w.cell? (a.add j) = some v) (hV : RowAt w w vb 181 (vc * 4) vs) (h1v : ∀ v ∈ vs, v.oneCell' = true) :
    Calls Tryz.prog 211 #[.slice base n c, .int .i64 n, .slice (some ⟨vb, 0, none⟩) 1 vc] w fun e w' =>
     ∃ G, e = .returned (.slice (some ⟨w.heap.size, 0, none⟩) (n + 1) G) ∧ n + 1 ≤ G ∧ G ≤ maxLen ∧ RowAt w w' w.heap.size 181 (G * 4) (F ++ vs) := by
 obtain ⟨i0, hi0, hz0, hzs, hzb⟩ : ∃ i0, Tryz.prog.info? 181 = some i0 ∧ i0.zero = some (.agg #[.string ⟨#[]⟩, .int .i64 0, .int .i64 0, .string ⟨#[]⟩]) ∧ i0.size = 4 ∧ i0.bytes = 48 := ⟨Tryz.t181, by kernel_rfl, rfl, rfl, rfl⟩
 have hsrc : Src Tryz.prog i0.size 71 (.slice (some ⟨vb, 0, none⟩) 1 vc) 1 vs w := Src.ofSlice w Tryz.underlying71 ⟨vb, 0, none⟩ 1 vc vs (by rw [hzs]; omega) (fun j u hj => by rw [Addr.add_lit, Nat.zero_add]; exact hV.cell hj) h1v
 have hold : (Builtin.firstCells i0.size n (.slice base n c)).run Tryz.prog w.drew = .ok F.toArray w.drew := by
  rw [hzs]
  cases base with
  | none =>
   have h0 := hnil rfl
   subst h0
   rw [List.length_eq_zero_iff.1 (by omega : F.length = 0)]
   exact run_firstCells_none w.drew 4 0 0 c
  | some a => exact run_firstCells_some w.drew 4 n a n c F (by omega) (fun j v hj => hcs a rfl j v hj)
 have hrun : ∀ ty, (Builtin.append_ #[71, 71] ty #[.slice base n c, .slice (some ⟨vb, 0, none⟩) 1 vc]).run Tryz.prog w = _ := fun ty =>
  run_append_grow_src w 71 71 ty 181 i0 _ Tryz.underlying71 hi0 hz0 base n c F hold _ 1 vs hsrc hroom (by omega) (by rw [hzb]; exact growslice_fits hroom hbig)
 have hGn : n + 1 ≤ grownCap w (n + 1) c 181 := grownCap_ge w _ _ _
 have hGm : grownCap w (n + 1) c 181 ≤ maxLen := grownCap_le_maxLen w (n + 1) c 181 (by unfold maxLen; omega)
 have HE : Aside (RowAt w (w.drew.alloc (.cells ((F ++ vs).toArray ++ Builtin.zeroCells (.agg #[.string ⟨#[]⟩, .int .i64 0, .int .i64 0, .string ⟨#[]⟩] : Value).cells (grownCap w (n + 1) c 181 - (n + 1))) 181)) w.heap.size 181 (grownCap w (n + 1) c 181 * 4) (F ++ vs)) := by
  have h := RowAt.freshd w ((F ++ vs).toArray ++ Builtin.zeroCells (.agg #[.string ⟨#[]⟩, .int .i64 0, .int .i64 0, .string ⟨#[]⟩] : Value).cells (grownCap w (n + 1) c 181 - (n + 1))) 181
  have e : ((F ++ vs).toArray ++ Builtin.zeroCells (.agg #[.string ⟨#[]⟩, .int .i64 0, .int .i64 0, .string ⟨#[]⟩] : Value).cells (grownCap w (n + 1) c 181 - (n + 1))).size = grownCap w (n + 1) c 181 * 4 := by
   simp [Builtin.zeroCells, Value.cells]; omega
  rw [e] at h
  exact h.pre (by simp)
 clear hV h1v hsrc hold hcs
 go_enter Tryz.func211, Tryz.ntmps211
 cases base with
 | none =>
  have h0 := hnil rfl
  subst h0
  go_wp2_with (at_builtin; refine Lib.wpList_append_run _ rfl _ _ _ _ rfl _ _ rfl rfl _ _ (hrun _) ?_)
  go_ret
  exact ⟨_, rfl, hGn, hGm, HE.out⟩
 | some a =>
  obtain ⟨ab, ao, asp⟩ := a
  go_wp2_with (at_builtin; refine Lib.wpList_append_run _ rfl _ _ _ _ rfl _ _ rfl rfl _ _ (hrun _) ?_)
  all_goals (go_ret; exact ⟨_, rfl, hGn, hGm, HE.out⟩)
set_option maxHeartbeats 4000000 in
set_option maxRecDepth 1000000 in
theorem ub (b c i vb vc n : Nat) (F vs : List Value) (w : World) (hi : i < n) (hnc : n ≤ c) (hroom : c < n + 1) (hbig : (n + 1) * 48 ≤ 140737488355328) (hvc : 1 ≤ vc)
    (hF : F.length = n * 4) (hv : vs.length = 4) (hR : RowAt w w b 181 (c * 4) F) (hV : RowAt w w vb 181 (vc * 4) vs) (h1F : ∀ v ∈ F, v.oneCell' = true) (h1v : ∀ v ∈ vs, v.oneCell' = true) :
    Calls Tryz.prog 211 #[.slice (some ⟨b, 0, none⟩) n c, .int .i64 i, .slice (some ⟨vb, 0, none⟩) 1 vc] w fun e w' =>
     ∃ G, e = .returned (.slice (some ⟨w.heap.size, 0, none⟩) (n + 1) G) ∧ n + 1 ≤ G ∧ G ≤ maxLen ∧ RowAt w w' w.heap.size 181 (G * 4) (F.take (i * 4) ++ vs ++ F.drop (i * 4)) := by
 obtain ⟨i0, hi0, hz0, hzs, hzb⟩ : ∃ i0, Tryz.prog.info? 181 = some i0 ∧ i0.zero = some (.agg #[.string ⟨#[]⟩, .int .i64 0, .int .i64 0, .string ⟨#[]⟩]) ∧ i0.size = 4 ∧ i0.bytes = 48 := ⟨Tryz.t181, by kernel_rfl, rfl, rfl, rfl⟩
 have mixed := fol
 have hz2 : ¬ ((i : Int) = (n : Int)) := by omega
 have hz3 : (c : Int) < (n : Int) + 1 := by omega
 have hsz : (Tryz.prog.info? 181).map (·.size) = some 4 := by rw [hi0]; simp [hzs]
 have hbw := hR.lt
 have hvw := hV.lt
 have hkk : (n : Int) + 1 - (i : Int) = ((n + 1 - i : Nat) : Int) := by omega
 have hik : i + (n + 1 - i) = n + 1 := by omega
 have hold : (Builtin.firstCells i0.size i (.slice (some ⟨b, 0, none⟩) i c)).run Tryz.prog w.drew = .ok (F.take (i * 4)).toArray w.drew := by
  rw [hzs]
  exact run_firstCells_some w.drew 4 i ⟨b, 0, none⟩ i c (F.take (i * 4)) (by rw [List.length_take]; omega) (fun j v hj => by
   rw [Addr.add_lit, Nat.zero_add]
   rw [List.getElem?_take] at hj
   split at hj
   ·exact hR.cell hj
   ·cases hj)
 have hrz : ∀ ty, (Builtin.append_ #[71, 3] ty #[.slice (some ⟨b, 0, none⟩) i c, .int .i64 ((n : Int) + 1 - (i : Int))]).run Tryz.prog w =
     .ok (.slice (some ⟨w.heap.size, 0, none⟩) (n + 1) (grownCap w (n + 1) c 181)) (w.drew.alloc (.cells ((F.take (i * 4)).toArray ++ Builtin.zeroCells (.agg #[.string ⟨#[]⟩, .int .i64 0, .int .i64 0, .string ⟨#[]⟩] : Value).cells (n + 1 - i) ++ Builtin.zeroCells (.agg #[.string ⟨#[]⟩, .int .i64 0, .int .i64 0, .string ⟨#[]⟩] : Value).cells (grownCap w (n + 1) c 181 - (n + 1))) 181)) := fun ty => by
  have h := Lib.run_append_grow_zeros w 71 3 ty 181 i0 _ .i64 .i64 Tryz.underlying71 Tryz.underlying3 hi0 hz0 (some ⟨b, 0, none⟩) i c (F.take (i * 4)) hold (n + 1 - i) (by omega) (by omega) (by omega) (by omega) (by rw [hzb]; omega) (by rw [hzb, hik]; exact growslice_fits hroom hbig)
  rw [hik] at h
  rw [hkk]
  exact h
 obtain ⟨G, hG⟩ : ∃ G, G = grownCap w (n + 1) c 181 := ⟨_, rfl⟩
 obtain ⟨ROW, hROW⟩ : ∃ ROW : Array Value, ROW = (F.take (i * 4)).toArray ++ Builtin.zeroCells (.agg #[.string ⟨#[]⟩, .int .i64 0, .int .i64 0, .string ⟨#[]⟩] : Value).cells (n + 1 - i) ++ Builtin.zeroCells (.agg #[.string ⟨#[]⟩, .int .i64 0, .int .i64 0, .string ⟨#[]⟩] : Value).cells (G - (n + 1)) := ⟨_, rfl⟩
 rw [← hG] at hrz
 rw [← hROW] at hrz
 have hGn : n + 1 ≤ G := by rw [hG]; exact grownCap_ge w _ _ _
 have hGm : G ≤ maxLen := by rw [hG]; exact grownCap_le_maxLen w (n + 1) c 181 (by unfold maxLen; omega)
 have hG63 : G ≤ 9223372036854775807 := by unfold maxLen at hGm; omega
 have hRs : ROW.size = G * 4 := by rw [hROW]; simp [Builtin.zeroCells, Value.cells]; omega
 have hRt : ROW.toList.take (i * 4) = F.take (i * 4) := by
  rw [hROW]
  simp only [Array.toList_append, List.append_assoc]
  rw [List.take_append_of_le_length (by simp; omega), List.take_of_length_le (by simp; omega)]
 have hR0 := RowAt.freshd w ROW 181
 rw [hRs] at hR0
 obtain ⟨W1, hW1⟩ : ∃ W1, W1 = w.drew.alloc (.cells ROW 181) := ⟨_, rfl⟩
 rw [← hW1] at hrz hR0
 have hlR : ROW.toList.length = G * 4 := by rw [← hRs]; simp
 have hR1 := hR0.set vs (s := i * 4) (by rw [hlR]; omega) (by omega)
 have hOb : ∀ j v, w.cell? ⟨b, j, none⟩ = some v → W1.cell? ⟨b, j, none⟩ = some v := fun j v h => by rw [hW1, World.cell?_alloc_past (w := w.drew) _ b j hbw]; exact h
 have hOv : ∀ j v, w.cell? ⟨vb, j, none⟩ = some v → W1.cell? ⟨vb, j, none⟩ = some v := fun j v h => by rw [hW1, World.cell?_alloc_past (w := w.drew) _ vb j hvw]; exact h
 have hcpA : ∀ (W : World), (∀ x, W.cell? x = W1.cell? x) → (∀ x, W.frozen? x = W1.frozen? x) → ∀ ty dc, (Builtin.copy_ #[71, 71] ty #[.slice (some ⟨w.heap.size, i * 4, none⟩) (n + 1 - i) dc, .slice (some ⟨vb, 0, none⟩) 1 vc]).run Tryz.prog W = .ok (goInt (Nat.min 1 (n + 1 - i))) (W.setCells w.heap.size (i * 4) vs) := fun W hWc hWf ty dc =>
  jq W _ _ ty 181 4 w.heap.size (i * 4) (n + 1 - i) dc ⟨vb, 0, none⟩ 1 vc vs Tryz.underlying71 hsz (by rw [hv]; simp only [Nat.min_def]; split <;> omega)
   (fun j v hj => by rw [Addr.add_lit, hWc, Nat.zero_add]; exact hOv _ v (hV.cell hj))
   (fun j hj => by rw [hWc]; exact hR0.there (by omega)) (fun j hj => by rw [hWf]; exact hR0.frozen _) h1v
 have hbN : b ≠ w.heap.size := by omega
 have hdl : (F.drop (i * 4)).length = (n - i) * 4 := by rw [List.length_drop, hF, Nat.sub_mul]
 have hcpB : ∀ (W : World), (∀ x, W.cell? x = (W1.setCells w.heap.size (i * 4) vs).cell? x) → (∀ x, W.frozen? x = (W1.setCells w.heap.size (i * 4) vs).frozen? x) → ∀ ty dc sc, (Builtin.copy_ #[71, 71] ty #[.slice (some ⟨w.heap.size, (i + 1) * 4, none⟩) (n - i) dc, .slice (some ⟨b, i * 4, none⟩) (n - i) sc]).run Tryz.prog W = .ok (goInt (Nat.min (n - i) (n - i))) (W.setCells w.heap.size ((i + 1) * 4) (F.drop (i * 4))) := fun W hWc hWf ty dc sc =>
  jq W _ _ ty 181 4 w.heap.size ((i + 1) * 4) (n - i) dc ⟨b, i * 4, none⟩ (n - i) sc (F.drop (i * 4)) Tryz.underlying71 hsz (by rw [hdl]; simp only [Nat.min_def]; split <;> omega)
   (fun j v hj => by
    rw [Addr.add_lit, hWc, World.cell?_setCells_out _ _ _ _ _ (fun h _ => absurd h hbN)]
    exact hOb _ v (hR.cell (by rwa [List.getElem?_drop] at hj)))
   (fun j hj => by rw [hWc]; exact hR1.there (by omega))
   (fun j hj => by rw [hWf]; exact hR1.frozen _) (fun v hv => h1F v (List.mem_of_mem_drop hv))
 have HE : Aside (∀ W W' : World, RowAt w W w.heap.size 181 (G * 4) (ROW.toList.take (i * 4) ++ vs ++ ROW.toList.drop (i * 4 + vs.length)) → W' = W.setCells w.heap.size ((i + 1) * 4) (F.drop (i * 4)) → RowAt w W' w.heap.size 181 (G * 4) (F.take (i * 4) ++ vs ++ F.drop (i * 4))) := fun W W' hW e => by
  subst e
  have h := hW.set (F.drop (i * 4)) (s := (i + 1) * 4) (by simp only [List.length_append, List.length_take, List.length_drop, hlR]; omega) (by omega)
  rw [hRt, List.take_append_of_le_length (by simp; omega), List.take_of_length_le (by simp; omega)] at h
  exact h.pre (List.prefix_append _ _)
 have H1 : Aside (RowAt w (((w.alloc (.cells ROW 181)).drew.setCells w.heap.size (i * 4) vs).drew) w.heap.size 181 (G * 4) (ROW.toList.take (i * 4) ++ vs ++ ROW.toList.drop (i * 4 + vs.length))) := by
  rw [xO, ← hW1]
  exact hR1.drew
 subst hW1
 have hE1 : ∀ x, ((w.alloc (.cells ROW 181)).drew).cell? x = (w.drew.alloc (.cells ROW 181)).cell? x := fun x => rfl
 have hE2 : ∀ x, ((w.alloc (.cells ROW 181)).drew).frozen? x = (w.drew.alloc (.cells ROW 181)).frozen? x := fun x => rfl
 have hF1 : ∀ x, (((w.alloc (.cells ROW 181)).drew.setCells w.heap.size (i * 4) vs).drew).cell? x = ((w.drew.alloc (.cells ROW 181)).setCells w.heap.size (i * 4) vs).cell? x := fun x => rfl
 have hF2 : ∀ x, (((w.alloc (.cells ROW 181)).drew.setCells w.heap.size (i * 4) vs).drew).frozen? x = ((w.drew.alloc (.cells ROW 181)).setCells w.heap.size (i * 4) vs).frozen? x := fun x => rfl
 have hGi : ¬ (G = i) := by omega
 have hGim : ¬ (G = i + 1) := by omega
 have hci : ¬ (c = i) := by omega
 have hw1 : IntKind.i64.wrap ((i : Int) + 1) = (i : Int) + 1 := by rw [IntKind.wrap_i64]; omega
 have hb1 : (0 : Int) ≤ (i : Int) + 1 := by omega
 have hin : i ≤ n := by omega
 have htn : ((i : Int) + 1).toNat = i + 1 := by omega
 have hb3 : (i : Int) ≤ (n : Int) := by omega
 clear hkk hik hold hROW hG hR hV hR0 hR1 h1F h1v hOb hOv hRt hRs hlR
 go_enter Tryz.func211, Tryz.ntmps211
 go_wp2_with (first
  | (at_builtin; refine Lib.wpList_append_run _ rfl _ _ _ _ rfl _ _ rfl rfl _ _ (hrz _) ?_)
  | (at_builtin; refine wpList_copy_runI _ rfl _ _ 71 71 rfl _ _ rfl rfl (hcpA _ hE1 hE2 _ _) ?_)
  | (at_builtin; refine wpList_copy_runI _ rfl _ _ 71 71 rfl _ _ rfl rfl (hcpB _ (fun _ => rfl) (fun _ => rfl) _ _ _) ?_))
 go_region_law_o (refine step_copy_runI rfl _ _ 71 71 rfl (.slice (some ⟨w.heap.size, (i + 1) * 4, none⟩) (n - i) (G - (i + 1))) (.slice (some ⟨b, i * 4, none⟩) (n - i) (c - i)) (by simp [Act.eval, Act.put]) (by simp [Act.eval, Act.put]) (hcpB _ hF1 hF2 3 (G - (i + 1)) (c - i)) ?_)
 go_wp2
 go_ret
 exact ⟨G, rfl, hGn, hGm, HE.out _ _ H1.out rfl⟩
end Go.Proofs.YtddimbdeggomaaaGreat
end
section
set_option maxRecDepth 100000
namespace Go.Proofs.YtddimbdeggomaaaGreat
open Go Go.Sx Go.RowKit Go.Proofs
theorem k7 (rows : List (List D)) (r : List D) (i : Nat) (hi : i ≤ rows.length) (hl : rows.length ≤ 8388608) : FnJ Tryz.prog 211 181 4 rows i [r] (rows.take i ++ r :: rows.drop i) := by
 refine ⟨Tryz.call211, fun V w y S y2 S2 hm hrow hrow2 hnd hlt => ?_⟩
 obtain ⟨hu, h⟩ := qV hrow
 obtain ⟨hu2, h2⟩ := qV hrow2
 have hr : r.length = 4 := hu2 r (by simp)
 rcases h2 with ⟨_, h2, _⟩ | ⟨vb, vc, vs, Ts, rfl, v3, v4, hV, vl, vL, vV, rfl⟩
 ·cases h2
 have vL' : LayL V r vs Ts := by simpa using vL
 have vl' : vs.length = 4 := by simpa using vl
 have v3' : 1 ≤ vc := by simpa using v3
 have h1v := vL'.oneCell
 rcases h with ⟨⟨ao, rfl⟩, rfl, rfl⟩ | ⟨b, cap, ys, Ss, rfl, e3, e4, hR, el, eL, eV, rfl⟩
 ·have hi0 : i = 0 := by simpa using hi
  subst hi0
  refine (oh ao 0 0 vb vc [] vs w (by omega) (by omega) (by omega) (by simp) vl' (fun _ => rfl) (fun a _ j v hj => by simp at hj) hV h1v).mono ?_
  rintro e w' ⟨G, rfl, hG, hGm, hN⟩
  have hd := qW (S := []) (S2 := vb :: Ts.flatten) (rows := []) (r := r) (i := 0) (Ss := []) (ys := []) (V := V) (hi) hu hr (LayL.nil V) vL' (by simpa using hN) (by simpa using hG) hGm (hm.fresh (Nat.le_refl _)) (.inr ⟨Nat.le_refl _, hN.lt⟩) (fun n hn => by simp at hn) (fun n hn => List.mem_cons_of_mem _ hn)
   (by
    simp only [List.flatten_nil, List.nil_append]
    refine List.nodup_cons.2 ⟨fun h => ?_, (List.nodup_cons.1 (by simpa using hnd)).2⟩
    have := hlt _ (by simp only [List.nil_append]; exact List.mem_cons_of_mem _ h)
    omega)
  exact ⟨_, rfl, km hN.grown, hd⟩
 ·have h1F := eL.oneCell
  have hbw := hR.lt
  have hvb : vb ≠ b := fun e => by subst e; simp at hnd
  have hnd2 : (Ss.flatten ++ Ts.flatten).Nodup := by
   have h1 : (Ss.flatten ++ vb :: Ts.flatten).Nodup := (List.nodup_cons.1 (by simpa using hnd)).2
   exact h1.sublist (List.Sublist.append_left (List.sublist_cons_self _ _) _)
  have hbS : b ∉ Ss.flatten ++ Ts.flatten := fun h => by
   have h1 := (List.nodup_cons.1 (show (b :: (Ss.flatten ++ vb :: Ts.flatten)).Nodup by simpa using hnd)).1
   rcases List.mem_append.1 h with h | h
   ·exact h1 (List.mem_append.2 (.inl h))
   ·exact h1 (List.mem_append.2 (.inr (List.mem_cons_of_mem _ h)))
  have hfr : w.heap.size ∉ Ss.flatten ++ Ts.flatten := fun h => by
   have := hlt w.heap.size (by
    rcases List.mem_append.1 h with h | h
    ·exact List.mem_append.2 (.inl (List.mem_cons_of_mem _ h))
    ·exact List.mem_append.2 (.inr (List.mem_cons_of_mem _ h)))
   omega
  have old : ∀ w', RowAt w w' b 181 (cap * 4) (ys.take (i * 4) ++ vs ++ ys.drop (i * 4)) → rows.length + 1 ≤ cap → ∃ S', RowR V w' 181 4 (rows.take i ++ r :: rows.drop i) (.slice (some ⟨b, 0, none⟩) (rows.length + 1) cap) S' ∧ S'.Nodup ∧ ∀ n ∈ S', n ∈ (b :: Ss.flatten) ∨ n ∈ (vb :: Ts.flatten) ∨ (w.heap.size ≤ n ∧ n < w'.heap.size) := fun w' h hc =>
   qW hi hu hr eL vL' h hc e4 eV (.inl (by simp)) (fun n hn => List.mem_cons_of_mem _ hn) (fun n hn => List.mem_cons_of_mem _ hn) (List.nodup_cons.2 ⟨hbS, hnd2⟩)
  have new : ∀ w' G, RowAt w w' w.heap.size 181 (G * 4) (ys.take (i * 4) ++ vs ++ ys.drop (i * 4)) → rows.length + 1 ≤ G → G ≤ maxLen → ∃ S', RowR V w' 181 4 (rows.take i ++ r :: rows.drop i) (.slice (some ⟨w.heap.size, 0, none⟩) (rows.length + 1) G) S' ∧ S'.Nodup ∧ ∀ n ∈ S', n ∈ (b :: Ss.flatten) ∨ n ∈ (vb :: Ts.flatten) ∨ (w.heap.size ≤ n ∧ n < w'.heap.size) := fun w' G h hc hGm =>
   qW hi hu hr eL vL' h hc hGm (hm.fresh (Nat.le_refl _)) (.inr ⟨Nat.le_refl _, h.lt⟩) (fun n hn => List.mem_cons_of_mem _ hn) (fun n hn => List.mem_cons_of_mem _ hn) (List.nodup_cons.2 ⟨hfr, hnd2⟩)
  have e63 : cap ≤ 9223372036854775807 := by unfold maxLen at e4; omega
  rcases Nat.lt_or_ge i rows.length with hlt' | hge
  ·rcases Nat.lt_or_ge cap (rows.length + 1) with hc | hc
   ·refine (ub b cap i vb vc rows.length ys vs w hlt' e3 hc (by omega) v3' el vl' hR hV h1F h1v).mono ?_
    rintro e w' ⟨G, rfl, hG, hGm, hN⟩
    exact ⟨_, rfl, km hN.grown, new w' G hN hG hGm⟩
   ·refine (rz b cap i vb vc rows.length ys vs w hlt' hc e63 hvb v3' el vl' hR hV h1F h1v).mono ?_
    rintro e w' ⟨rfl, hN⟩
    exact ⟨_, rfl, hN.grown, old w' hN hc⟩
  ·have hie : i = rows.length := by omega
   subst hie
   rw [List.take_of_length_le (l := ys) (by omega), List.drop_of_length_le (l := ys) (by omega), List.append_nil] at old new
   rcases Nat.lt_or_ge cap (rows.length + 1) with hc | hc
   ·refine (oh (some ⟨b, 0, none⟩) rows.length cap vb vc ys vs w e3 hc (by omega) el vl' (fun h => by cases h) (fun a ha j v hj => by cases ha; rw [Addr.add_lit, Nat.zero_add]; exact hR.cell hj) hV h1v).mono ?_
    rintro e w' ⟨G, rfl, hG, hGm, hN⟩
    exact ⟨_, rfl, km hN.grown, new w' G hN hG hGm⟩
   ·refine (ua b rows.length cap vb vc ys vs w hc e63 el vl' hR hV h1v).mono ?_
    rintro e w' ⟨rfl, hN⟩
    exact ⟨_, rfl, hN.grown, old w' hN hc⟩
end Go.Proofs.YtddimbdeggomaaaGreat
end
section
set_option maxRecDepth 100000
set_option maxHeartbeats 4000000
namespace Go.Proofs.YtddimbdeggomaaaGreat
open Go Go.Sx Go.RowKit Go.Proofs
def Ey (s : ByteArray) (y : TAttr) : Bool := !dL y.fName s
def Ez (a : List TAttr) (x : TAttr) : Bool := a.any fun y => decide (y.fName = x.fName) && !so y.fValue x.fValue
def EA (a : List TAttr) (x : TAttr) : Bool := a.any fun y => decide (y.fName = x.fName)
def xM (a : List TAttr) : List TAttr → List TAttr → Option (List TAttr)
 | l, [] => some l
 | l, x :: b => if Ez a x then none else if EA a x then xM a l b else xM a (eB (bZ (Ey x.fName) l) x l) b
def F3 (a b : TEdit) : TEdit := if a.fOK && b.fOK then (match xM a.fSet a.fSet b.fSet with | none => ⟨false, []⟩ | some l => ⟨true, l⟩) else ⟨false, []⟩
theorem kJ {α β : Type} (f : α → β) (l : List α) (n : Nat) : (l.map f).take n = (l.take n).map f := List.map_take.symm
theorem kK {α β : Type} (f : α → β) (l : List α) (n : Nat) : (l.map f).drop n = (l.drop n).map f := List.map_drop.symm
theorem B4 (p : TAttr → Bool) (l : List TAttr) (k : Nat) (h : k < l.length) (hk : bZ p l = k + bZ p (l.drop k)) : bZ p l = if p l[k] then k else k + 1 + bZ p (l.drop (k + 1)) := by
 rw [hk, qm p l k h]
 split <;> omega
end Go.Proofs.YtddimbdeggomaaaGreat
end
section
set_option maxRecDepth 100000
namespace Go.Sx
open Go Go.RowKit
structure DelK (k : Nat) (xs : List (List Value × Bool)) (i j : Nat) (F : List Value) : Prop where
 un : ∀ x ∈ xs, x.1.length = k
 len : F.length = xs.length * k
 ij : i < j
 jn : j ≤ xs.length
 lo : F.take (i * k) = (((xs.take j).filter fun x => !x.2).map (·.1)).flatten
 hi : F.drop (j * k) = ((xs.drop j).map (·.1)).flatten
 il : i = ((xs.take j).filter fun x => !x.2).length
theorem Aq {k : Nat} {xs : List (List Value × Bool)} (h : ∀ x ∈ xs, x.1.length = k) : ((xs.map (·.1)).flatten).length = xs.length * k := by
 rw [qU (sz := k) fun r hr => by obtain ⟨x, hx, rfl⟩ := List.mem_map.1 hr; exact h x hx, List.length_map]
theorem DelK.at {k : Nat} {xs : List (List Value × Bool)} {i j : Nat} {F : List Value} (h : DelK k xs i j F) (hj : j < xs.length) {t : Nat} {v : Value} (ht : xs[j].1[t]? = some v) : F[j * k + t]? = some v := by
 have h0 : (F.drop (j * k))[t]? = ((xs.drop j).map (·.1)).flatten[t]? := by rw [h.hi]
 rw [List.getElem?_drop] at h0
 rw [h0, List.drop_eq_getElem_cons hj, List.map_cons, List.flatten_cons, List.getElem?_append_left (List.getElem?_eq_some_iff.1 ht).1]
 exact ht
theorem B6 (xs : List (List Value × Bool)) (k : Nat) (h : ∀ j (hj : j < xs.length), j < k → xs[j].2 = false) : (xs.take k).filter (fun x => !x.2) = xs.take k := by
 refine List.filter_eq_self.2 fun x hx => ?_
 obtain ⟨j, hj, rfl⟩ := List.mem_iff_getElem.1 hx
 simp only [List.length_take] at hj
 rw [List.getElem_take, h j (by omega) (by omega)]; rfl
theorem DelK.start {k n : Nat} {xs : List (List Value × Bool)} (hu : ∀ x ∈ xs, x.1.length = k) (hn : n < xs.length) (h : ∀ j (hj : j < xs.length), j < n → xs[j].2 = false) (hp : xs[n].2 = true) : DelK k xs n (n + 1) (xs.map (·.1)).flatten := by
 have e1 : (xs.take (n + 1)).filter (fun x => !x.2) = xs.take n := by
  rw [List.take_succ_eq_append_getElem hn, List.filter_append, B6 xs n h]
  simp [hp]
 have hu' : ∀ r ∈ xs.map (·.1), r.length = k := fun r hr => by obtain ⟨x, hx, rfl⟩ := List.mem_map.1 hr; exact hu x hx
 refine ⟨hu, Aq hu, by omega, by omega, ?_, ?_, ?_⟩
 ·rw [e1, List.map_take, nC n hu']
 ·rw [List.map_drop, gy (n + 1) hu']
 ·rw [e1]; simp; omega
theorem DelK.keep {k : Nat} {xs : List (List Value × Bool)} {i j : Nat} {F : List Value} (h : DelK k xs i j F) (hj : j < xs.length) (hp : xs[j].2 = false) : DelK k xs (i + 1) (j + 1) (F.take (i * k) ++ xs[j].1 ++ F.drop (i * k + xs[j].1.length)) := by
 have e1 : (xs.take (j + 1)).filter (fun x => !x.2) = (xs.take j).filter (fun x => !x.2) ++ [xs[j]] := by
  rw [List.take_succ_eq_append_getElem hj, List.filter_append]
  simp [hp]
 have hl := h.len
 have hij := h.ij
 have hu := h.un xs[j] (List.getElem_mem hj)
 have hle : (i + 1) * k ≤ j * k := Nat.mul_le_mul_right k hij
 have hle2 : (j + 1) * k ≤ xs.length * k := Nat.mul_le_mul_right k hj
 rw [Nat.add_mul] at hle hle2
 simp only [Nat.one_mul] at hle hle2
 have hFl : i * k + k ≤ F.length := by omega
 refine ⟨h.un, ?_, by omega, by omega, ?_, ?_, ?_⟩
 ·simp only [List.length_append, List.length_take, List.length_drop, hu]; omega
 ·rw [List.take_append_of_le_length (by simp [hu, Nat.add_mul]; omega), List.take_of_length_le (by simp [hu, Nat.add_mul]; omega), e1, List.map_append, List.flatten_append, h.lo]; simp
 ·rw [List.drop_append, List.drop_of_length_le (by simp [hu, Nat.add_mul]; omega), List.nil_append, List.drop_drop]
  have e2 : F.drop ((j + 1) * k) = ((xs.drop (j + 1)).map (·.1)).flatten := by
   have hu' : ∀ r ∈ (xs.drop j).map (·.1), r.length = k := fun r hr => by obtain ⟨x, hx, rfl⟩ := List.mem_map.1 hr; exact h.un x (List.mem_of_mem_drop hx)
   have := gy 1 hu'
   rw [Nat.add_mul, ← List.drop_drop, h.hi, ← this, ← List.map_drop, List.drop_drop]
  rw [← e2]
  congr 1
  simp only [List.length_append, List.length_take, hu, Nat.add_mul]
  omega
 ·rw [e1, List.length_append, ← h.il]; rfl
theorem DelK.skip {k : Nat} {xs : List (List Value × Bool)} {i j : Nat} {F : List Value} (h : DelK k xs i j F) (hj : j < xs.length) (hp : xs[j].2 = true) : DelK k xs i (j + 1) F := by
 have e1 : (xs.take (j + 1)).filter (fun x => !x.2) = (xs.take j).filter (fun x => !x.2) := by
  rw [List.take_succ_eq_append_getElem hj, List.filter_append]
  simp [hp]
 have hij := h.ij
 refine ⟨h.un, h.len, by omega, by omega, by rw [e1]; exact h.lo, ?_, by rw [e1]; exact h.il⟩
 have hu' : ∀ r ∈ (xs.drop j).map (·.1), r.length = k := fun r hr => by obtain ⟨x, hx, rfl⟩ := List.mem_map.1 hr; exact h.un x (List.mem_of_mem_drop hx)
 have := gy 1 hu'
 rw [Nat.add_mul, ← List.drop_drop, h.hi, ← this, ← List.map_drop, List.drop_drop]
theorem DelK.fin {k : Nat} {xs : List (List Value × Bool)} {i : Nat} {F : List Value} (h : DelK k xs i xs.length F) : F.take (i * k) = ((xs.filter fun x => !x.2).map (·.1)).flatten ∧ i = (xs.filter fun x => !x.2).length := by
 have h1 := h.lo
 have h2 := h.il
 rw [List.take_length] at h1 h2
 exact ⟨h1, h2⟩
theorem RowAt.other {w wr W : World} {b ty N : Nat} {F : List Value} (h : RowAt w wr b ty N F) (hb : Below wr.heap.size wr W) : RowAt w W b ty N F := h.behind hb
def eC {τ : Type} (k : Nat) (p : τ → Bool) : List Value → List τ → List (List Value × Bool)
 | _, [] => []
 | ys, x :: l => (ys.take k, p x) :: eC k p (ys.drop k) l
def uf {α τ : Type} (k : Nat) (p : τ → Bool) : List α → List τ → List α
 | _, [] => []
 | ys, x :: l => (if p x then [] else ys.take k) ++ uf k p (ys.drop k) l
theorem qX {τ : Type} (k : Nat) (p : τ → Bool) : ∀ (l : List τ) (ys : List Value), (eC k p ys l).length = l.length
 | [], _ => rfl
 | x :: l, ys => by simp [eC, qX k p l]
theorem sI {τ : Type} (k : Nat) (p : τ → Bool) : ∀ (l : List τ) (ys : List Value), ys.length = l.length * k → ∀ x ∈ eC k p ys l, x.1.length = k
 | [], _, _, x, hx => by simp [eC] at hx
 | y :: l, ys, h, x, hx => by
  rw [List.length_cons, Nat.add_mul] at h
  rcases List.mem_cons.1 hx with rfl | hx
  ·simp; omega
  ·exact sI k p l _ (by simp; omega) x hx
theorem qY {τ : Type} (k : Nat) (p : τ → Bool) : ∀ (l : List τ) (ys : List Value) (j : Nat) (hj : j < l.length) (hj' : j < (eC k p ys l).length), (eC k p ys l)[j] = ((ys.drop (j * k)).take k, p l[j])
 | y :: l, ys, 0, _, _ => by simp [eC]
 | y :: l, ys, j + 1, hj, hj' => by
  simp only [eC, List.getElem_cons_succ]
  rw [qY k p l (ys.drop k) j (by simpa using hj)]
  rw [List.drop_drop, Nat.add_mul, Nat.one_mul, Nat.add_comm]
theorem ol {τ : Type} (k : Nat) (p : τ → Bool) : ∀ (l : List τ) (ys : List Value), ys.length = l.length * k → ((eC k p ys l).map (·.1)).flatten = ys
 | [], ys, h => by simp at h; subst h; rfl
 | x :: l, ys, h => by
  rw [List.length_cons, Nat.add_mul] at h
  simp only [eC, List.map_cons, List.flatten_cons]
  rw [ol k p l _ (by simp; omega), List.take_append_drop]
theorem qZ {τ : Type} (k : Nat) (p : τ → Bool) : ∀ (l : List τ) (ys : List Value), (((eC k p ys l).filter fun x => !x.2).map (·.1)).flatten = uf k p ys l ∧ ((eC k p ys l).filter fun x => !x.2).length = (l.filter fun x => !p x).length
 | [], ys => ⟨rfl, rfl⟩
 | x :: l, ys => by
  obtain ⟨h1, h2⟩ := qZ k p l (ys.drop k)
  simp only [eC, List.filter_cons, uf]
  cases p x
  ·simp [h1, h2]
  ·simp [h1, h2]
theorem wo {τ : Type} (k : Nat) (p : τ → Bool) : ∀ (l : List τ) (Ss : List (List Nat)), (uf k p Ss l).Sublist Ss
 | [], _ => List.nil_sublist _
 | x :: l, Ss => by
  simp only [uf]
  conv => rhs; rw [← List.take_append_drop k Ss]
  refine List.Sublist.append ?_ (wo k p l _)
  split
  ·exact List.nil_sublist _
  ·exact List.Sublist.refl _
theorem LayL.sel {τ : Type} {V : View} {k : Nat} (enc : τ → List D) (p : τ → Bool) (he : ∀ x, (enc x).length = k) : ∀ (l : List τ) (ys : List Value) (Ss : List (List Nat)), LayL V (l.map enc).flatten ys Ss → LayL V ((l.filter fun x => !p x).map enc).flatten (uf k p ys l) (uf k p Ss l)
 | [], ys, Ss, h => LayL.nil V
 | x :: l, ys, Ss, h => by
  have h1 := h.take k
  have h2 := h.drop k
  simp only [List.map_cons, List.flatten_cons] at h1 h2
  rw [List.take_left' (he x)] at h1
  rw [List.drop_left' (he x)] at h2
  have ih := LayL.sel enc p he l _ _ h2
  simp only [uf, List.filter_cons]
  cases p x
  ·simp only [Bool.not_false, if_true, Bool.false_eq_true, if_false, List.map_cons, List.flatten_cons]
   exact h1.append ih
  ·simp only [Bool.not_true, Bool.false_eq_true, if_false, if_true, List.nil_append]
   exact ih
theorem EB {V : View} {ds : List D} {ys : List Value} {Ss : List (List Nat)} (h : LayL V ds ys Ss) : cL [] V (ds.map At.d) ys :=
 ⟨by simp [h.1], fun j a y h1 h2 => by
  rw [List.getElem?_map] at h1
  cases hd : ds[j]? with
  | none => rw [hd] at h1; cases h1
  | some d =>
   rw [hd] at h1
   cases h1
   have hj : j < Ss.length := by rw [h.2.1]; exact (List.getElem?_eq_some_iff.1 hd).1
   exact ⟨_, h.2.2 j d y _ hd h2 (List.getElem?_eq_getElem hj)⟩⟩
theorem LayL.chunk {τ : Type} {V : View} {k : Nat} {enc : τ → List D} (he : ∀ x, (enc x).length = k) {l : List τ} {ys : List Value} {Ss : List (List Nat)} (h : LayL V (l.map enc).flatten ys Ss) (j : Nat) (hj : j < l.length) : LayL V (enc l[j]) ((ys.drop (j * k)).take k) ((Ss.drop (j * k)).take k) := by
 have hu : ∀ r ∈ l.map enc, r.length = k := fun r hr => by obtain ⟨x, _, rfl⟩ := List.mem_map.1 hr; exact he x
 have h1 := (h.drop (j * k)).take k
 rw [← gy j hu, List.drop_eq_getElem_cons (by simpa using hj), List.flatten_cons, List.getElem_map, List.take_left' (he _)] at h1
 exact h1
theorem mO {w W : World} {c : Array Value} {ty : Nat} (h : Below (w.alloc (.cells c ty)).heap.size (w.alloc (.cells c ty)) W) {t : Nat} {v : Value} (hv : c.toList[t]? = some v) : W.cell? ⟨w.heap.size, t, none⟩ = some v := by
 have hh : (w.alloc (.cells c ty)).heap = w.heap.push (.cells c ty) := rfl
 have h1 : W.heap[w.heap.size]? = some (.cells c ty) := by
  rw [h.block w.heap.size (by rw [hh, Array.size_push]; omega), hh, Array.getElem?_push, if_pos rfl]
 simp only [World.cell?, h1, Option.isSome_none, Bool.false_eq_true, if_false]
 rw [← Array.getElem?_toList]; exact hv
theorem wq {α : Type} {l m : List (List α)} (h : l.Sublist m) : l.flatten.Sublist m.flatten := by
 induction h with
 | slnil => exact List.Sublist.refl _
 | cons a _ ih => exact ih.trans (by simp)
 | cons_cons a _ ih => simp only [List.flatten_cons]; exact (List.Sublist.refl a).append ih
end Go.Sx
end
