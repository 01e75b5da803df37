/- Joined texts. -/
import Derived.Test.YteaaopodnbjpoaaGreatZ16
import Derived.Test.YteaaopodnbjpoaaGreatZ11
import Derived.Test.YteaaopodnbjpoaaGreatZ15
import Derived.Test.YteaaopodnbjpoaaGreatZ18
import Derived.Shelf.RegionOpenPlain
import Derived.WalkKit
import Derived.Lib.Walk
import Derived.Lib.SliceRun
import Derived.Lib.JoinLaws
import Derived.Lib.AppendZeros
import Derived.Lib.AppendZerosOnto
import Derived.Lib.Overlaps
import Derived.Laws.Externs
import Derived.Laws.NewBlocks
import Derived.Shelf.Spec.SlicesInsertGrow
import Derived.Test.YteaaopodnbjpoaaGreatZ08
import Derived.Test.YteaaopodnbjpoaaGreatZ09
import Derived.Test.YteaaopodnbjpoaaGreatZ10
import Derived.Test.YteaaopodnbjpoaaGreatZ07
import Derived.Deep.LoopGhost
import Derived.Deep.Draws
import Derived.Shelf.SlicesE.Kit
import Derived.Shelf.SlicesE.DeleteFunc
import Derived.Test.YteaaopodnbjpoaaGreatZ06
set_option linter.all false
section
set_option maxRecDepth 100000
set_option maxHeartbeats 4000000
namespace Go.Proofs.YteaaopodnbjpoaaGreat
open Go Go.Sx Go.RowKit Go.Proofs
theorem b1D (id : Int) (x : TFile) : FnC Tryz.prog 230 [dC x, .o (.q [iv id])] (ob (decide (x.fID = id))) := by
 refine ent Tryz.func230 rfl Tryz.call230 rfl (fun C => ?_); simp only [go_sem, st0, Tryz.ntmps230]
 refine aD ?_
 exact aA ⟨⟨_, rfl, by simp only [go_sem]⟩, trivial⟩
theorem zA (s : TStore) (id : Int) (hl : s.fFiles.length ≤ 4300000) : FnC Tryz.prog 177 [cZ s, oi id] (oi (ixF id s.fFiles)) := by
 refine ent Tryz.func177 rfl Tryz.call177 rfl (fun C => ?_); simp only [go_sem, st0, Tryz.ntmps177]
 refine gP (a1P _ _ (fun x => decide (x.fID = id)) s.fFiles (fun y _ => b1D id y) (by omega)) ?_
 exact aA ⟨⟨_, rfl, by simp only [go_sem, ixF]⟩, trivial⟩
theorem qX (s : TStore) (id : Int) (hl : s.fFiles.length ≤ 4300000) : FnC Tryz.prog 156 [cZ s, oi id] (oi (ixF id s.fFiles)) := by
 refine ent Tryz.func156 rfl Tryz.call156 rfl (fun C => ?_); simp only [go_sem, st0, Tryz.ntmps156]
 refine aD ?_
 refine aN (α := Nat) (fun k => [(5, oi k)]) (fun _ => []) (fun k => k ≤ s.fFiles.length ∧ ixF id s.fFiles = dX (fun f => decide (f.fID = id)) (s.fFiles.drop k) k) (fun k => s.fFiles.length - k) 0 (fun _ => ?_) ?_ ?_ (fun k hk => ?_)
 ·simp only [go_sem]
 ·simp only [go_sem]; simp
 ·simp [ixF]
 ·obtain ⟨hk, hq⟩ := hk
  simp only [go_sem]
  refine aD ?_
  refine cnd rfl (fun h => ?_) (fun h => ?_)
  ·simp only [decide_eq_true_eq, Int.ofNat_lt] at h
   have hd := List.drop_eq_getElem_cons h
   rw [hd, dX] at hq
   by_cases h2 : s.fFiles[k].fID = id
   ·rw [if_pos (by simp [h2])] at hq
    have q0 := @h; have q1 := @h2; have q2 := @decide_true; refine mO ?_
    exact aA ⟨⟨_, rfl, by simp only [go_sem, hq]⟩, trivial⟩
   ·rw [if_neg (by simp [h2])] at hq
    have q0 := @h; have q1 := @h2; have q2 := @decide_false; refine mO ?_
    refine aF (k + 1) ?_ ?_ ?_
    ·simp only [go_sem]; simp
    ·rw [hq]; exact ⟨h, by simp⟩
    ·omega
  ·simp only [decide_eq_false_iff_not] at h
   have e : k = s.fFiles.length := by omega
   subst e
   simp only [List.drop_length, dX] at hq
   refine aD ?_
   exact aA ⟨⟨_, rfl, by simp only [go_sem, hq]⟩, trivial⟩
theorem a9O (s : TStore) (id : Int) (h : aL s ≤ 4300000) : FnC Tryz.prog 104 [cZ s, oi id] (.t [(true, (a8T (iP id s.fFiles)).cells), (false, [.d (bv (decide (0 ≤ ixF id s.fFiles)))])]) := by
 have hl : s.fFiles.length ≤ 4300000 := by unfold aL bY at h; omega
 refine ent Tryz.func104 rfl Tryz.call104 rfl (fun C => ?_); simp only [go_sem, st0, Tryz.ntmps104]
 rcases ixF_cases id s.fFiles with e | ⟨p, e, hp, _⟩
 ·have e1 := a4V e
  have hz : ¬ (0 : Int) ≤ -1 := by omega
  have hk := zA s id hl
  rw [e] at hk
  have q0 := @hz; have q1 := @decide_false; refine mM hk ?_
  exact aA ⟨⟨_, rfl, by simp only [go_sem, e, e1, hz, decide_false, zF, List.map_nil]; try simp⟩, by simp [aK]⟩
 ·have e1 := a1Z e hp
  have hz : (0 : Int) ≤ (p : Int) := by omega
  have hw := bA wFile s.fFiles hp
  have hx : s.fFiles[p].fAttrs.length ≤ 4300000 := by
   have e : s.fFiles[p].fAttrs.length ≤ wFile s.fFiles[p] := by unfold wFile dN; omega
   unfold aL bY at h; omega
  have hk := zA s id hl
  rw [e] at hk
  have q0 := @hz; have q1 := @hp; have q2 := @decide_true; have q3 := @Int.toNat_natCast; refine a0c hk (mZ s.fFiles[p] hx) ?_
  exact aA ⟨⟨_, rfl, by simp only [go_sem, e, e1, hz, decide_true]; try simp⟩, by simp [aK]⟩
theorem a9P (s : TStore) (id : Int) (h : aL s ≤ 4300000) : FnC Tryz.prog 84 [cZ s, oi id] (.t [(true, (a8T (iP id s.fFiles)).cells), (false, [.d (bv (decide (0 ≤ ixF id s.fFiles)))])]) := by
 have hl : s.fFiles.length ≤ 4300000 := by unfold aL bY at h; omega
 refine ent Tryz.func84 rfl Tryz.call84 rfl (fun C => ?_); simp only [go_sem, st0, Tryz.ntmps84]
 rcases ixF_cases id s.fFiles with e | ⟨p, e, hp, _⟩
 ·have e1 := a4V e
  have hz : ¬ (0 : Int) ≤ -1 := by omega
  have hy : (-1 : Int) < 0 := by omega
  have hk := qX s id hl
  rw [e] at hk
  have q0 := @hy; have q1 := @decide_true; refine mM hk ?_
  exact aA ⟨⟨_, rfl, by simp only [go_sem, e, e1, hz, decide_false, zF, List.map_nil]; try simp⟩, by simp [aK]⟩
 ·have e1 := a1Z e hp
  have hz : (0 : Int) ≤ (p : Int) := by omega
  have hy : ¬ (p : Int) < 0 := by omega
  have hw := bA wFile s.fFiles hp
  have hx : s.fFiles[p].fAttrs.length ≤ 4300000 := by
   have e : s.fFiles[p].fAttrs.length ≤ wFile s.fFiles[p] := by unfold wFile dN; omega
   unfold aL bY at h; omega
  have hk := qX s id hl
  rw [e] at hk
  have q0 := @hy; have q1 := @hp; have q2 := @decide_false; have q3 := @Int.toNat_natCast; refine a0c hk (pV s.fFiles[p] hx) ?_
  exact aA ⟨⟨_, rfl, by simp only [go_sem, e, e1, hz, decide_true]; try simp⟩, by simp [aK]⟩
theorem qI (s : TStore) (f : TFile) (hs : aL s ≤ 4300000) (hf : wFile f ≤ 4300000) : FnC Tryz.prog 179 [cZ s, dC f] (.t [(true, (xI (tY s f)).cells), (false, [.d (bv (jD s f))])]) := by
 have h1 : aT s.fSchema ≤ 4300000 := by unfold aL at hs; omega
 have h2 : s.fFiles.length ≤ 4300000 := by unfold aL bY at hs; omega
 have h3 : f.fAttrs.length ≤ 4300000 := by unfold wFile dN at hf; omega
 have hk := zA s f.fID h2
 refine ent Tryz.func179 rfl Tryz.call179 rfl (fun C => ?_); simp only [go_sem, st0, Tryz.ntmps179]
 cases hv : bR s
 ·have e : jD s f = false := by simp [jD, hv]
  have q0 := @hv; refine a1I (fP s hs) hk (eO s hs) ?_
  exact aA ⟨⟨_, rfl, by simp only [go_sem, tY, e]; try simp⟩, by simp [aK]⟩
 rcases ixF_cases f.fID s.fFiles with ei | ⟨p, ei, hp, _⟩
 ·have e : jD s f = false := by simp [jD, ei]
  have hy : (-1 : Int) < 0 := by omega
  rw [ei] at hk
  have q0 := @hv; have q1 := @hy; have q2 := @decide_true; refine a8K (fP s hs) hk (eO s hs) ?_
  exact aA ⟨⟨_, rfl, by simp only [go_sem, tY, e]; try simp⟩, by simp [aK]⟩
 have hy : ¬ (p : Int) < 0 := by omega
 rw [ei] at hk
 cases ho : eU s.fSchema f
 ·have e : jD s f = false := by simp [jD, ho]
  have q0 := @hv; have q1 := @hy; have q2 := @ho; have q3 := @decide_false; refine b8j (fP s hs) hk (eO s hs) (gN s.fSchema f h1 hf) ?_
  exact aA ⟨⟨_, rfl, by simp only [go_sem, tY, e]; try simp⟩, by simp [aK]⟩
 ·have e : jD s f = true := by simp [jD, hv, ei, ho]
  have qH := aI @hv (aI @hy (aI @ho (aI @hp (aI @decide_false (aI @Int.toNat_natCast @a7e))))); repeat' (with_reducible first | refine nY ?_ | (refine mX ?_; try simp only [go_sem, qH]) | refine kD ?_ | (apply rE [4,6] [] [0,1,2,3] [0,1,2,3] ((.c 4 [5] [0,1,2,5] (.c 6 [] [] .n .n) .n)) (by simp only [go_sem]; rfl) (by simp only [go_sem]; rfl) (by simp only [go_sem]; rfl) (by decide +kernel); (focus simp only [go_sem]; done)) | exact dO | refine cB (uX ?_) ?_ | refine cK (aX ?_) ?_ | refine cO (aX ?_) ?_ | exact bZ | exact oH | exact uB | refine rD ?_ | refine cP (fP s hs) ?_ | refine cP hk ?_ | refine cP (eO s hs) ?_ | refine cP (gN s.fSchema f h1 hf) ?_ | refine cP (mZ f h3) ?_ | refine aO ?_ | fail)
  exact aA ⟨⟨_, rfl, by simp only [go_sem, tY, e, ei, Int.toNat_natCast, if_true, List.map_set]; try simp [bB]⟩, by simp [aK]⟩
theorem a5h (s : TStore) (f : TFile) (hs : aL s ≤ 4300000) (hf : wFile f ≤ 4300000) : FnC Tryz.prog 137 [cZ s, dC f] (.t [(true, (xI (tY s f)).cells), (false, [.d (bv (jD s f))])]) := by
 have h1 : aT s.fSchema ≤ 4300000 := by unfold aL at hs; omega
 have h2 : s.fFiles.length ≤ 4300000 := by unfold aL bY at hs; omega
 have h3 : f.fAttrs.length ≤ 4300000 := by unfold wFile dN at hf; omega
 have hk := qX s f.fID h2
 refine ent Tryz.func137 rfl Tryz.call137 rfl (fun C => ?_); simp only [go_sem, st0, Tryz.ntmps137]
 cases hv : bR s
 ·have e : jD s f = false := by simp [jD, hv]
  have qH := @hv; repeat' (with_reducible first | refine nY ?_ | (refine mX ?_; try simp only [go_sem, qH]) | refine kD ?_ | refine rD ?_ | refine cP (kU s hs) ?_ | refine vR hk ?_ | refine vD hk ?_ | refine vR (bL s hs) ?_ | refine vD (bL s hs) ?_ | refine aO ?_ | fail)
  exact aA ⟨⟨_, rfl, by simp only [go_sem, tY, e]; try simp⟩, by simp [aK]⟩
 rcases ixF_cases f.fID s.fFiles with ei | ⟨p, ei, hp, _⟩
 ·have e : jD s f = false := by simp [jD, ei]
  have hy : (-1 : Int) < 0 := by omega
  rw [ei] at hk
  have qH := aI @hv (aI @hy @decide_true); repeat' (with_reducible first | refine nY ?_ | (refine mX ?_; try simp only [go_sem, qH]) | refine kD ?_ | refine rD ?_ | refine cP (kU s hs) ?_ | refine vR hk ?_ | refine vD hk ?_ | refine vR (bL s hs) ?_ | refine vD (bL s hs) ?_ | refine aO ?_ | fail)
  exact aA ⟨⟨_, rfl, by simp only [go_sem, tY, e]; try simp⟩, by simp [aK]⟩
 have hy : ¬ (p : Int) < 0 := by omega
 rw [ei] at hk
 cases ho : eU s.fSchema f
 ·have e : jD s f = false := by simp [jD, ho]
  have qH := aI @hv (aI @hy (aI @ho @decide_false)); repeat' (with_reducible first | refine nY ?_ | (refine mX ?_; try simp only [go_sem, qH]) | refine kD ?_ | refine rD ?_ | refine cP (kU s hs) ?_ | refine vR hk ?_ | refine vD hk ?_ | refine vR (bL s hs) ?_ | refine vD (bL s hs) ?_ | refine vR (fI s.fSchema f h1 hf) ?_ | refine vD (fI s.fSchema f h1 hf) ?_ | refine aO ?_ | fail)
  exact aA ⟨⟨_, rfl, by simp only [go_sem, tY, e]; try simp⟩, by simp [aK]⟩
 ·have e : jD s f = true := by simp [jD, hv, ei, ho]
  have qH := aI @hv (aI @hy (aI @ho (aI @hp (aI @decide_false (aI @Int.toNat_natCast @a7e))))); repeat' (with_reducible first | refine nY ?_ | (refine mX ?_; try simp only [go_sem, qH]) | refine kD ?_ | (apply rE [4,6] [] [0,1,2,3] [0,1,2,3] ((.c 4 [5] [0,1,2,5] (.c 6 [] [] .n .n) .n)) (by simp only [go_sem]; rfl) (by simp only [go_sem]; rfl) (by simp only [go_sem]; rfl) (by decide +kernel); (focus simp only [go_sem]; done)) | exact dO | refine cB (uX ?_) ?_ | refine cK (aX ?_) ?_ | refine cO (aX ?_) ?_ | exact bZ | exact oH | exact uB | refine rD ?_ | refine cP (kU s hs) ?_ | refine vR hk ?_ | refine vG hk ?_ | refine vR (bL s hs) ?_ | refine vG (bL s hs) ?_ | refine vR (fI s.fSchema f h1 hf) ?_ | refine vG (fI s.fSchema f h1 hf) ?_ | refine cP (pV f h3) ?_ | refine aO ?_ | fail)
  exact aA ⟨⟨_, rfl, by simp only [go_sem, tY, e, ei, Int.toNat_natCast, if_true, List.map_set]; try simp [bB]⟩, by simp [aK]⟩
end Go.Proofs.YteaaopodnbjpoaaGreat
end
section
set_option maxRecDepth 100000
set_option maxHeartbeats 4000000
namespace Go.Proofs.YteaaopodnbjpoaaGreat
open Go Go.Sx Go.RowKit Go.Proofs
theorem rW (s : TStore) (id : Int) (hs : aL s ≤ 4300000) : FnC Tryz.prog 181 [cZ s, oi id] (.t [(true, (xI (yC s id)).cells), (false, [.d (bv (lT s id))])]) := by
 have h2 : s.fFiles.length ≤ 4300000 := by unfold aL bY at hs; omega
 have hk := zA s id h2
 refine ent Tryz.func181 rfl Tryz.call181 rfl (fun C => ?_); simp only [go_sem, st0, Tryz.ntmps181]
 cases hv : bR s
 ·have e : lT s id = false := by simp [lT, hv]
  have q0 := @hv; refine a1I (fP s hs) hk (eO s hs) ?_
  exact aA ⟨⟨_, rfl, by simp only [go_sem, yC, e]; try simp⟩, by simp [aK]⟩
 rcases ixF_cases id s.fFiles with ei | ⟨p, ei, hp, _⟩
 ·have e : lT s id = false := by simp [lT, ei]
  have hy : (-1 : Int) < 0 := by omega
  rw [ei] at hk
  have q0 := @hv; have q1 := @hy; have q2 := @decide_true; refine a8K (fP s hs) hk (eO s hs) ?_
  exact aA ⟨⟨_, rfl, by simp only [go_sem, yC, e]; try simp⟩, by simp [aK]⟩
 ·have hy : ¬ (p : Int) < 0 := by omega
  rw [ei] at hk
  have e : lT s id = true := by simp [lT, hv, ei]
  have hp' : p < (s.fFiles.map bB).length := by simpa using hp
  have qH := aI @hv (aI @hy (aI @hp (aI @decide_false (aI @Int.toNat_natCast @a7e)))); repeat' (with_reducible first | refine nY ?_ | (refine mX ?_; try simp only [go_sem, qH]) | refine kD ?_ | refine rD ?_ | refine cP (fP s hs) ?_ | refine cP hk ?_ | refine cP (eO s hs) ?_ | refine vI (a2I s.fFiles p hp (by omega)) ?_ | refine vJ (a2I s.fFiles p hp (by omega)) ?_ | refine aO ?_ | fail)
  exact aA ⟨⟨_, rfl, by simp only [go_sem, yC, e, ei, Int.toNat_natCast, if_true]; try simp⟩, by simp [aK]⟩
theorem b2C (l : List TFile) : ∀ r ∈ l.map bB, r.length = 5 := by intro r hr; obtain ⟨x, _, rfl⟩ := List.mem_map.1 hr; rfl
theorem rX (s : TStore) (id : Int) (hs : aL s ≤ 4300000) : FnC Tryz.prog 158 [cZ s, oi id] (.t [(true, (cZ (yC s id)).cells), (false, [.d (bv (lT s id))])]) := by
 have h2 : s.fFiles.length ≤ 4300000 := by unfold aL bY at hs; omega
 have hk := qX s id h2
 have hcp : FnC Tryz.prog 77 [cZ s] (cZ s) := (kU s hs).pu (by simp only [go_sem, and_self])
 refine ent Tryz.func158 rfl Tryz.call158 rfl (fun C => ?_); simp only [go_sem, st0, Tryz.ntmps158]
 cases hv : bR s
 ·have e : lT s id = false := by simp [lT, hv]
  have q0 := @hv; refine a1I hcp hk (bL s hs) ?_
  exact aA ⟨⟨_, rfl, by simp only [go_sem, yC, e]; try simp⟩, by simp [aK]⟩
 rcases ixF_cases id s.fFiles with ei | ⟨p, ei, hp, _⟩
 ·have e : lT s id = false := by simp [lT, ei]
  have hy : (-1 : Int) < 0 := by omega
  rw [ei] at hk
  have q0 := @hv; have q1 := @hy; have q2 := @decide_true; refine a8K hcp hk (bL s hs) ?_
  exact aA ⟨⟨_, rfl, by simp only [go_sem, yC, e]; try simp⟩, by simp [aK]⟩
 ·have hy : ¬ (p : Int) < 0 := by omega
  rw [ei] at hk
  have e : lT s id = true := by simp [lT, hv, ei]
  have hpn : ((p : Int) + 1).toNat = p + 1 := by omega
  have hT : List.take s.fFiles.length (List.map bB s.fFiles) = List.map bB s.fFiles := List.take_of_length_le (by simp)
  have hTk : List.take p (List.map bB s.fFiles) = (s.fFiles.take p).map bB := List.map_take.symm
  have hDp : List.drop (p + 1) (List.map bB s.fFiles) = (s.fFiles.drop (p + 1)).map bB := List.map_drop.symm
  have qH := aI @hv (aI @hy (aI @hp (aI @hpn (aI @hT (aI @hTk (aI @hDp (aI @a3P (aI @a3Q (aI @a3R (aI @decide_false (aI @Int.toNat_natCast @a7e))))))))))); repeat' (with_reducible first | refine nY ?_ | (refine mX ?_; try simp only [go_sem, qH]) | refine kD ?_ | (apply rE [0,5,11,13] [] [1,2,3,4,6,7,8,9,10] [1,2,3,4,6,7,8,9,10] ((.c 0 [] [1,2,3,4,6,7,8,9,10] (.c 5 [] [6,7,8,9,10] (.c 11 [12] [12] (.c 13 [] [] .n .n) .n) .n) .n)) (by simp only [go_sem]; rfl) (by simp only [go_sem]; rfl) (by simp only [go_sem]; rfl) (by decide +kernel); (focus simp only [go_sem]; done)) | exact dO | refine cB (uX ?_) ?_ | refine cK (aX ?_) ?_ | refine cO (aX ?_) ?_ | exact bZ | exact oH | (refine uA ?_; simp only [go_sem, qH]; (repeat' first | omega | exact b2C _ | refine And.intro ?_ ?_); done) | refine rD ?_ | refine And.intro (b2C _) ?_ | refine cP hcp ?_ | refine cP hk ?_ | refine cP (bL s hs) ?_ | refine aO ?_ | fail)
  first | refine aB (Sees.frz 4 rfl) ?_ | refine aB (Sees.frz 3 rfl) ?_ | refine aB (Sees.frz 2 rfl) ?_
  simp only [go_sem]
  exact aA ⟨⟨_, rfl, by simp only [go_sem, yC, e, ei, Int.toNat_natCast, if_true, fJ, List.map_append]; try simp⟩, by simp [aK]⟩
noncomputable def uF (c : TCatalog) (id : Int) : Bool := kH c && lT c.fStore id
noncomputable def a2d (c : TCatalog) (id : Int) : TCatalog := goC (uF c id) c (yC c.fStore id) c.fDirs (dirNs c.fDirs)
noncomputable def a2e (c : TCatalog) (id : Int) : List TDiff := goD (uF c id) c (yC c.fStore id) c.fDirs (dirNs c.fDirs)
theorem a5G (c : TCatalog) (id : Int) (h : wCatalog c ≤ 4300000) : FnC Tryz.prog 107 [bK c, oi id] (.t [(true, (jV (a2d c id)).cells), (false, [.w 100 3 ((a2e c id).map dH)]), (false, [.d (bv (uF c id))])]) := by
 have hc : wCatalog c = aL c.fStore + aP c.fDirs + aH c.fResults := rfl
 have hw := b1m c.fStore id
 have hl : c.fDirs.length ≤ 4300000 := by unfold aP at hc; omega
 have hn : (dirNs c.fDirs).length ≤ 4300000 := by rw [lN]; exact hl
 refine ent Tryz.func107 rfl Tryz.call107 rfl (fun C => ?_); simp only [go_sem, st0, Tryz.ntmps107]
 cases h2 : lT c.fStore id
 ·have e : uF c id = false := by simp [uF, h2]
  have q0 := @h2; refine a1I (rW c.fStore id (by omega)) (bI c (by omega)) (dP c (by omega)) ?_
  exact aA ⟨⟨_, rfl, by simp only [go_sem, a2d, a2e, e, iT, iU, List.map_nil]; try simp⟩, by simp [aK]⟩
 cases h1 : kH c
 ·have e : uF c id = false := by simp [uF, h1]
  have q0 := @h1; have q1 := @h2; refine a8J (rW c.fStore id (by omega)) (bI c (by omega)) (dP c (by omega)) ?_
  exact aA ⟨⟨_, rfl, by simp only [go_sem, a2d, a2e, e, iT, iU, List.map_nil]; try simp⟩, by simp [aK]⟩
 ·have e : uF c id = true := by simp [uF, h1, h2]
  have hev : evB (yC c.fStore id) c.fDirs = true := by unfold evB; rw [b4T h1, b8E h2]; rfl
  have hk := a3i c (yC c.fStore id) c.fDirs (dirNs c.fDirs) hev (by omega) (by omega) (by omega) hn
  have qH := aI @h1 @h2; repeat' (with_reducible first | refine nY ?_ | (refine mX ?_; try simp only [go_sem, qH]) | refine kD ?_ | (apply rE [6,7,11] [] [0,1,2,3,4,5] [0,1,2,3,4,5] ((.c 6 [] [0,1,2,3] (.c 7 [8,9,10] [8,9,10] (.c 11 [12,13] [12,13] .n .n) .n) .n)) (by simp only [go_sem]; rfl) (by simp only [go_sem]; rfl) (by simp only [go_sem]; rfl) (by decide +kernel); (focus simp only [go_sem]; done)) | exact dO | refine cB (uX ?_) ?_ | refine cK (aX ?_) ?_ | refine cO (aX ?_) ?_ | exact bZ | exact oH | exact uB | refine rD ?_ | refine cP (rW c.fStore id (by omega)) ?_ | refine cP (bI c (by omega)) ?_ | refine cP (a0P c.fDirs hl) ?_ | refine cP hk ?_ | refine aO ?_ | fail)
  exact aA ⟨⟨_, rfl, by simp only [go_sem, a2d, a2e, e]; try simp⟩, by simp [aK]⟩
theorem a5H (c : TCatalog) (id : Int) (h : wCatalog c ≤ 4300000) : FnC Tryz.prog 87 [bK c, oi id] (.t [(true, (bK (a2d c id)).cells), (false, [.d (.sl ((a2e c id).map dH))]), (false, [.d (bv (uF c id))])]) := by
 have hc : wCatalog c = aL c.fStore + aP c.fDirs + aH c.fResults := rfl
 have hw := b1m c.fStore id
 have hl : c.fDirs.length ≤ 4300000 := by unfold aP at hc; omega
 have hn : (dirNs c.fDirs).length ≤ 4300000 := by rw [lN]; exact hl
 refine ent Tryz.func87 rfl Tryz.call87 rfl (fun C => ?_); simp only [go_sem, st0, Tryz.ntmps87]
 cases h1 : kH c
 ·have e : uF c id = false := by simp [uF, h1]
  have q0 := @h1; refine a1I (bG c (by omega)) (rX c.fStore id (by omega)) (bE c (by omega)) ?_
  first | refine aB (Sees.frz 1 rfl) ?_ | refine aB (Sees.frz 2 rfl) ?_ | refine aB (Sees.frz 3 rfl) ?_ | refine aB (Sees.frz 4 rfl) ?_ | refine aB (Sees.frz 5 rfl) ?_
  simp only [go_sem]
  exact aA ⟨⟨_, rfl, by simp only [go_sem, a2d, a2e, e, iT, iU, List.map_nil]; try simp⟩, by simp [aK]⟩
 cases h2 : lT c.fStore id
 ·have e : uF c id = false := by simp [uF, h2]
  have q0 := @h1; have q1 := @h2; refine a8J (bG c (by omega)) (rX c.fStore id (by omega)) (bE c (by omega)) ?_
  first | refine aB (Sees.frz 1 rfl) ?_ | refine aB (Sees.frz 2 rfl) ?_ | refine aB (Sees.frz 3 rfl) ?_ | refine aB (Sees.frz 4 rfl) ?_ | refine aB (Sees.frz 5 rfl) ?_
  simp only [go_sem]
  exact aA ⟨⟨_, rfl, by simp only [go_sem, a2d, a2e, e, iT, iU, List.map_nil]; try simp⟩, by simp [aK]⟩
 ·have e : uF c id = true := by simp [uF, h1, h2]
  have qH := aI @h1 @h2; repeat' (with_reducible first | refine nY ?_ | (refine mX ?_; try simp only [go_sem, qH]) | refine kD ?_ | (apply rE [6,7,11,12] [] [0,1,2,3,4,5] [0,1,2,3,4,5] ((.c 6 [] [0,1,2,3] (.c 7 [8,9,10] [8,9,10] (.c 11 [] [8,9,10] (.c 12 [13] [10,13] .n .n) .n) (.c 11 [] [0,1,2,3] (.c 7 [8,9,10] [8,9,10] (.c 12 [13] [10,13] .n .n) .n) .n)) (.c 11 [] [0,1,2,3,4,5] (.c 6 [] [0,1,2,3] (.c 7 [8,9,10] [8,9,10] (.c 12 [13] [10,13] .n .n) .n) .n) .n))) (by simp only [go_sem]; rfl) (by simp only [go_sem]; rfl) (by simp only [go_sem]; rfl) (by decide +kernel); (focus simp only [go_sem]; done)) | exact dO | refine cB (uX ?_) ?_ | refine cK (aX ?_) ?_ | refine cO (aX ?_) ?_ | exact bZ | exact oH | exact uB | refine rD ?_ | refine cP (bG c (by omega)) ?_ | refine cP (rX c.fStore id (by omega)) ?_ | refine cP (bE c (by omega)) ?_ | refine cP (sQ c.fDirs hl) ?_ | refine cP (mG c (yC c.fStore id) c.fDirs (dirNs c.fDirs) (by omega) (by omega) (by omega) hn) ?_ | refine aO ?_ | fail)
  exact aA ⟨⟨_, rfl, by simp only [go_sem, a2d, a2e, e, a3g, a3h]; try simp⟩, by simp [aK]⟩
end Go.Proofs.YteaaopodnbjpoaaGreat
end
section
set_option maxRecDepth 100000
set_option maxHeartbeats 4000000
namespace Go.Proofs.YteaaopodnbjpoaaGreat
open Go Go.Sx Go.RowKit Go.Proofs
theorem a9Q (l : List TDir) (a b : TFile) (h : aP l + (wFile a + wFile b) ≤ 4300000) : FnC Tryz.prog 180 [.o (.d (.sl (l.map aM))), dC a, dC b] (.o (.d (.sl ((a7U a b l).map bV)))) := (b1r l a b h).pu (by simp only [go_sem, and_self])
theorem a9R (l : List TDir) (a b : TFile) (h : aP l + (wFile a + wFile b) ≤ 4300000) : FnC Tryz.prog 157 [.o (.d (.sl (l.map aM))), dC a, dC b] (.o (.d (.sl ((a7U a b l).map bV)))) := (b1s l a b h).pu (by simp only [go_sem, and_self])
theorem a9S (a b : TFile) (l : List TDir) : (a7U a b l).length ≤ aP l := by have := b8I a b l; unfold pJ at this; omega
theorem oC (s : TStore) (f : TFile) (hs : aL s ≤ 4300000) (hf : wFile f ≤ 4300000) : FnC Tryz.prog 137 [cZ s, dC f] (.t [(true, (cZ (tY s f)).cells), (false, [.d (bv (jD s f))])]) := (a5h s f hs hf).pu (by simp only [go_sem, and_self])
theorem fH (s : TStore) (id : Int) (h : aL s ≤ 4300000) : FnC Tryz.prog 84 [cZ s, oi id] (.t [(true, (dC (iP id s.fFiles)).cells), (false, [.d (bv (decide (0 ≤ ixF id s.fFiles)))])]) := (a9P s id h).pu (by simp only [go_sem, and_self])
theorem iK (s : TStore) (id : Int) (h : aL s ≤ 4300000) : FnC Tryz.prog 104 [cZ s, oi id] (.t [(true, (dC (iP id s.fFiles)).cells), (false, [.d (bv (decide (0 ≤ ixF id s.fFiles)))])]) := (a9O s id h).pu (by simp only [go_sem, and_self])
noncomputable def uG (c : TCatalog) (f : TFile) : Bool := kH c && jD c.fStore f
def a2U (c : TCatalog) (f : TFile) : List ByteArray := a7U (iP f.fID c.fStore.fFiles) f c.fDirs
noncomputable def a2f (c : TCatalog) (f : TFile) : TCatalog := goC (uG c f) c (tY c.fStore f) c.fDirs (a2U c f)
noncomputable def a2g (c : TCatalog) (f : TFile) : List TDiff := goD (uG c f) c (tY c.fStore f) c.fDirs (a2U c f)
theorem a5I (c : TCatalog) (f : TFile) (h : wCatalog c + wFile f ≤ 4300000) : FnC Tryz.prog 106 [bK c, dC f] (.t [(true, (jV (a2f c f)).cells), (false, [.w 100 3 ((a2g c f).map dH)]), (false, [.d (bv (uG c f))])]) := by
 have hc : wCatalog c = aL c.fStore + aP c.fDirs + aH c.fResults := rfl
 have hs : aL c.fStore = aT c.fStore.fSchema + bY c.fStore.fFiles := rfl
 have hw := b1n c.fStore f
 have hn : (a2U c f).length ≤ 4300000 := by have := a9S (iP f.fID c.fStore.fFiles) f c.fDirs; unfold a2U; omega
 have hfw := b2v f.fID c.fStore.fFiles
 refine ent Tryz.func106 rfl Tryz.call106 rfl (fun C => ?_); simp only [go_sem, st0, Tryz.ntmps106]
 cases h2 : jD c.fStore f
 ·have e : uG c f = false := by simp [uG, h2]
  have q0 := @h2; refine a1I (qI c.fStore f (by omega) (by omega)) (bI c (by omega)) (dP c (by omega)) ?_
  exact aA ⟨⟨_, rfl, by simp only [go_sem, a2f, a2g, e, iT, iU, List.map_nil]; try simp⟩, by simp [aK]⟩
 cases h1 : kH c
 ·have e : uG c f = false := by simp [uG, h1]
  have q0 := @h1; have q1 := @h2; refine a8J (qI c.fStore f (by omega) (by omega)) (bI c (by omega)) (dP c (by omega)) ?_
  exact aA ⟨⟨_, rfl, by simp only [go_sem, a2f, a2g, e, iT, iU, List.map_nil]; try simp⟩, by simp [aK]⟩
 ·have e : uG c f = true := by simp [uG, h1, h2]
  have hev : evB (tY c.fStore f) c.fDirs = true := by unfold evB; rw [b4T h1, b8F h2]; rfl
  have hk := a3i c (tY c.fStore f) c.fDirs (a2U c f) hev (by omega) (by omega) (by omega) hn
  have ha := a9Q c.fDirs (iP f.fID c.fStore.fFiles) f (by omega)
  unfold a2U at hk
  have qH := aI @h1 @h2; repeat' (with_reducible first | refine nY ?_ | (refine mX ?_; try simp only [go_sem, qH]) | refine kD ?_ | (apply rE [8,9,13] [] [0,1,2,3,4,5,6,7] [0,1,2,3,4,5,6,7] ((.c 8 [] [0,1,2,3] (.c 9 [10,11,12] [10,11,12] (.c 13 [14,15] [14,15] .n .n) .n) .n)) (by simp only [go_sem]; rfl) (by simp only [go_sem]; rfl) (by simp only [go_sem]; rfl) (by decide +kernel); (focus simp only [go_sem]; done)) | exact dO | refine cB (uX ?_) ?_ | refine cK (aX ?_) ?_ | refine cO (aX ?_) ?_ | exact bZ | exact oH | exact uB | refine rD ?_ | refine cP (qI c.fStore f (by omega) (by omega)) ?_ | refine cP (bI c (by omega)) ?_ | refine cP (iK c.fStore f.fID (by omega)) ?_ | refine cP ha ?_ | refine cP hk ?_ | refine aO ?_ | fail)
  exact aA ⟨⟨_, rfl, by simp only [go_sem, a2f, a2g, a2U, e]; try simp⟩, by simp [aK]⟩
theorem a5J (c : TCatalog) (f : TFile) (h : wCatalog c + wFile f ≤ 4300000) : FnC Tryz.prog 85 [bK c, dC f] (.t [(true, (bK (a2f c f)).cells), (false, [.d (.sl ((a2g c f).map dH))]), (false, [.d (bv (uG c f))])]) := by
 have hc : wCatalog c = aL c.fStore + aP c.fDirs + aH c.fResults := rfl
 have hs : aL c.fStore = aT c.fStore.fSchema + bY c.fStore.fFiles := rfl
 have hw := b1n c.fStore f
 have hn : (a2U c f).length ≤ 4300000 := by have := a9S (iP f.fID c.fStore.fFiles) f c.fDirs; unfold a2U; omega
 have hfw := b2v f.fID c.fStore.fFiles
 refine ent Tryz.func85 rfl Tryz.call85 rfl (fun C => ?_); simp only [go_sem, st0, Tryz.ntmps85]
 cases h1 : kH c
 ·have e : uG c f = false := by simp [uG, h1]
  have q0 := @h1; refine b8i (bG c (by omega)) (fH c.fStore f.fID (by omega)) (oC c.fStore f (by omega) (by omega)) (bE c (by omega)) ?_
  first | refine aB (Sees.frz 1 rfl) ?_ | refine aB (Sees.frz 2 rfl) ?_ | refine aB (Sees.frz 3 rfl) ?_ | refine aB (Sees.frz 4 rfl) ?_ | refine aB (Sees.frz 5 rfl) ?_
  simp only [go_sem]
  exact aA ⟨⟨_, rfl, by simp only [go_sem, a2f, a2g, e, iT, iU, List.map_nil]; try simp⟩, by simp [aK]⟩
 cases h2 : jD c.fStore f
 ·have e : uG c f = false := by simp [uG, h2]
  have q0 := @h1; have q1 := @h2; refine b4M (bG c (by omega)) (fH c.fStore f.fID (by omega)) (oC c.fStore f (by omega) (by omega)) (bE c (by omega)) ?_
  first | refine aB (Sees.frz 1 rfl) ?_ | refine aB (Sees.frz 2 rfl) ?_ | refine aB (Sees.frz 3 rfl) ?_ | refine aB (Sees.frz 4 rfl) ?_ | refine aB (Sees.frz 5 rfl) ?_
  simp only [go_sem]
  exact aA ⟨⟨_, rfl, by simp only [go_sem, a2f, a2g, e, iT, iU, List.map_nil]; try simp⟩, by simp [aK]⟩
 ·have e : uG c f = true := by simp [uG, h1, h2]
  have ha := a9R c.fDirs (iP f.fID c.fStore.fFiles) f (by omega)
  have hk := mG c (tY c.fStore f) c.fDirs (a2U c f) (by omega) (by omega) (by omega) hn
  unfold a2U at hk
  have qH := aI @h1 @h2; repeat' (with_reducible first | refine nY ?_ | (refine mX ?_; try simp only [go_sem, qH]) | refine kD ?_ | (apply rE [8,9,13,14] [] [0,1,2,3,4,5,6,7] [0,1,2,3,4,5,6,7] ((.c 8 [] [0,1,2,3] (.c 9 [10,11,12] [10,11,12] (.c 13 [] [10,11,12] (.c 14 [15] [12,15] .n .n) .n) (.c 13 [] [0,1,2,3] (.c 9 [10,11,12] [10,11,12] (.c 14 [15] [12,15] .n .n) .n) .n)) (.c 13 [] [0,1,2,3,4,5,6,7] (.c 8 [] [0,1,2,3] (.c 9 [10,11,12] [10,11,12] (.c 14 [15] [12,15] .n .n) .n) .n) .n))) (by simp only [go_sem]; rfl) (by simp only [go_sem]; rfl) (by simp only [go_sem]; rfl) (by decide +kernel); (focus simp only [go_sem]; done)) | exact dO | refine cB (uX ?_) ?_ | refine cK (aX ?_) ?_ | refine cO (aX ?_) ?_ | exact bZ | exact oH | exact uB | refine rD ?_ | refine cP (bG c (by omega)) ?_ | refine cP (fH c.fStore f.fID (by omega)) ?_ | refine cP (oC c.fStore f (by omega) (by omega)) ?_ | refine cP (bE c (by omega)) ?_ | refine cP ha ?_ | refine cP hk ?_ | refine aO ?_ | fail)
  exact aA ⟨⟨_, rfl, by simp only [go_sem, a2f, a2g, a2U, e, a3g, a3h]; try simp⟩, by simp [aK]⟩
end Go.Proofs.YteaaopodnbjpoaaGreat
end
section
namespace Go.Proofs.YteaaopodnbjpoaaGreat
open Go Go.Sx Go.RowKit Go.Proofs Go.Lib
end Go.Proofs.YteaaopodnbjpoaaGreat
end
section
set_option maxRecDepth 100000
namespace Go.Proofs.YteaaopodnbjpoaaGreat
open Go Go.Sx Go.RowKit Go.Proofs
end Go.Proofs.YteaaopodnbjpoaaGreat
end
section
set_option maxRecDepth 100000
set_option maxHeartbeats 4000000
namespace Go.Proofs.YteaaopodnbjpoaaGreat
open Go Go.Sx Go.RowKit Go.Proofs
def b8S (s : ByteArray) (y : TAttr) : Bool := !gD y.fName s
def b8T (a : List TAttr) (x : TAttr) : Bool := a.any fun y => decide (y.fName = x.fName) && !a6n y.fValue x.fValue
def b8U (a : List TAttr) (x : TAttr) : Bool := a.any fun y => decide (y.fName = x.fName)
def b1E (a : List TAttr) : List TAttr → List TAttr → Option (List TAttr)
 | l, [] => some l
 | l, x :: b => if b8T a x then none else if b8U a x then b1E a l b else b1E a (insAt (fstIx (b8S x.fName) l) x l) b
def c0q (a b : TEdit) : TEdit := if a.fOK && b.fOK then (match b1E a.fSet a.fSet b.fSet with | none => ⟨false, []⟩ | some l => ⟨true, l⟩) else ⟨false, []⟩
end Go.Proofs.YteaaopodnbjpoaaGreat
end
section
namespace Go.Proofs.YteaaopodnbjpoaaGreat
open Go Go.Sx Go.RowKit Go.Proofs Go.Lib
end Go.Proofs.YteaaopodnbjpoaaGreat
end
section
set_option maxRecDepth 100000
set_option maxHeartbeats 4000000
namespace Go.Proofs.YteaaopodnbjpoaaGreat
open Go Go.Sx Go.RowKit Go.Proofs
end Go.Proofs.YteaaopodnbjpoaaGreat
end
section
set_option maxRecDepth 100000
set_option maxHeartbeats 4000000
namespace Go.Proofs.YteaaopodnbjpoaaGreat
open Go Go.Sx Go.RowKit Go.Proofs
def b8P (s : ByteArray) (y : TAttr) : Bool := decide (y.fName = s)
def b8Q (s : ByteArray) (y : TAttr) : Bool := !(gD y.fName s || decide (y.fName = s))
def b8R (s : ByteArray) (l : List TAttr) : List TAttr := l.filter fun y => !b8P s y
def b9A (s : ByteArray) (v : TValue) (l : List TAttr) : List TAttr := if v.fKind = 0 then b8R s l else insAt (fstIx (b8Q s) (b8R s l)) ⟨s, v⟩ (b8R s l)
def c0D (f : TFile) (s : ByteArray) (v : TValue) : TFile := { f with fAttrs := b9A s v f.fAttrs }
end Go.Proofs.YteaaopodnbjpoaaGreat
end
section
set_option maxRecDepth 100000
set_option maxHeartbeats 4000000
namespace Go.Proofs.YteaaopodnbjpoaaGreat
open Go Go.Sx Go.RowKit Go.Proofs
end Go.Proofs.YteaaopodnbjpoaaGreat
end
section
set_option maxRecDepth 100000
set_option maxHeartbeats 4000000
namespace Go.Proofs.YteaaopodnbjpoaaGreat
open Go Go.Sx Go.RowKit Go.Proofs
def b8O (l : List TAttr) (e : List TAttr) : List TAttr := e.foldl (fun l a => b9A a.fName a.fValue l) l
def c0p (f : TFile) (e : TEdit) : TFile := { f with fAttrs := b8O f.fAttrs e.fSet }
end Go.Proofs.YteaaopodnbjpoaaGreat
end
section
set_option maxRecDepth 100000
set_option maxHeartbeats 4000000
namespace Go.Proofs.YteaaopodnbjpoaaGreat
open Go Go.Sx Go.RowKit Go.Proofs
def a7Z (f : TFile) (u : Int) : Bool := inB u 0 2 && decide (f.fOwner = u)
def c0C (f : TFile) (u : Int) : Bool := inB u 0 2 && (decide (f.fOwner = u) || f.fShared)
theorem nT (f : TFile) (u : Int) : FnC Tryz.prog 105 [dC f, oi u] (ob (a7Z f u)) := by
 refine ent Tryz.func105 rfl Tryz.call105 rfl (fun C => ?_); simp only [go_sem, st0, Tryz.ntmps105]
 cases h : inB u 0 2
 all_goals
  have q0 := @h; refine fC (dW u) ?_
  exact aA ⟨⟨_, rfl, by simp only [go_sem, a7Z, h, Bool.true_and, Bool.false_and]⟩, trivial⟩
theorem qY (f : TFile) (u : Int) : FnC Tryz.prog 86 [dC f, oi u] (ob (a7Z f u)) := by
 refine ent Tryz.func86 rfl Tryz.call86 rfl (fun C => ?_); simp only [go_sem, st0, Tryz.ntmps86]
 cases h : inB u 0 2
 all_goals
  have q0 := @h; refine fC (aW u 0 2) ?_
  exact aA ⟨⟨_, rfl, by simp only [go_sem, a7Z, h, Bool.true_and, Bool.false_and]⟩, trivial⟩
end Go.Proofs.YteaaopodnbjpoaaGreat
end
section
set_option maxRecDepth 100000
set_option maxHeartbeats 4000000
namespace Go.Proofs.YteaaopodnbjpoaaGreat
open Go Go.Sx Go.RowKit Go.Proofs Go.Sx.Clos
noncomputable def xE (c : TCatalog) (s : ByteArray) : Bool := kH c && nZ c.fDirs s
noncomputable def a5o (c : TCatalog) (s : ByteArray) : TCatalog := goC (xE c s) c c.fStore (rmD c.fDirs s) (tdS c.fDirs [s])
noncomputable def a5p (c : TCatalog) (s : ByteArray) : List TDiff := goD (xE c s) c c.fStore (rmD c.fDirs s) (tdS c.fDirs [s])
noncomputable def mP (c : TCatalog) (u id : Int) : Bool := decide (0 ≤ ixF id c.fStore.fFiles) && a7Z (iP id c.fStore.fFiles) u
noncomputable def jQ (c : TCatalog) (u : Int) (o : TChange) : TCatalog × List TDiff × Bool :=
 if o.fKind = 1 then (if o.fFile.fOwner = u then (uE c o.fFile, wH c o.fFile, rU c o.fFile) else (c, [], false))
 else if o.fKind = 2 then (if o.fFile.fOwner = u then (if mP c u o.fFile.fID then (a2f c o.fFile, a2g c o.fFile, uG c o.fFile) else (c, [], false)) else (c, [], false))
 else if o.fKind = 3 then (if mP c u o.fID then (a2d c o.fID, a2e c o.fID, uF c o.fID) else (c, [], false))
 else if o.fKind = 4 then (a0d c o.fDir, a0e c o.fDir, oF c o.fDir)
 else if o.fKind = 5 then (a5o c o.fDir.fName, a5p c o.fDir.fName, xE c o.fDir.fName)
 else (c, [], false)
noncomputable def fD (c : TCatalog) (u : Int) (o : TChange) : TCatalog × List TDiff × Bool := if inB u 0 2 && kH c then jQ c u o else (c, [], false)
theorem b8n {c : TCatalog} {f : TFile} (h : rU c f = false) : uE c f = c ∧ wH c f = [] := by simp [uE, wH, h]
theorem b8o {c : TCatalog} {f : TFile} (h : uG c f = false) : a2f c f = c ∧ a2g c f = [] := by simp [a2f, a2g, h, iT, iU]
theorem b8p {c : TCatalog} {i : Int} (h : uF c i = false) : a2d c i = c ∧ a2e c i = [] := by simp [a2d, a2e, h, iT, iU]
theorem b8q {c : TCatalog} {x : TDir} (h : oF c x = false) : a0d c x = c ∧ a0e c x = [] := by simp [a0d, a0e, h, iT, iU]
theorem b8r {c : TCatalog} {s : ByteArray} (h : xE c s = false) : a5o c s = c ∧ a5p c s = [] := by simp [a5o, a5p, h, iT, iU]
theorem b6J {c : TCatalog} {s : ByteArray} (h : xE c s = true) : evB c.fStore (rmD c.fDirs s) = true := by
 unfold xE at h
 rw [Bool.and_eq_true] at h
 unfold evB; rw [b8M (b4T h.1) h.2, b7z h.1]; rfl
theorem a3U (d : List TDir) (s : ByteArray) (h : aP d ≤ 4200000) : FnC Tryz.prog 109 [.o (.d (.sl (d.map aM))), os s] (.t [(false, [.d (.sl ((rmD d s).map aM))]), (false, [.d (bv (nZ d s))])]) := (b3Z d s h).pu (by simp only [go_sem, and_self])
theorem a3V (d : List TDir) (s : ByteArray) (h : aP d ≤ 4200000) : FnC Tryz.prog 162 [.o (.d (.sl (d.map aM))), os s] (.t [(false, [.d (.sl ((rmD d s).map aM))]), (false, [.d (bv (nZ d s))])]) := (b4b d s h).pu (by simp only [go_sem, and_self])
theorem a5q (c : TCatalog) (s : ByteArray) (hcur : kH c = true) (h : wCatalog c + s.size ≤ 2000000) : FnC Tryz.prog 89 [bK c, os s] (.t [(true, (bK (a5o c s)).cells), (false, [.d (.sl ((a5p c s).map dH))]), (false, [.d (bv (xE c s))])]) := by
 have hc : wCatalog c = aL c.fStore + aP c.fDirs + aH c.fResults := rfl
 have hw := b2B c.fDirs s
 have hp := a0N c.fDirs s
 have hn : (tdS c.fDirs [s]).length ≤ 4300000 := by have := a3f c.fDirs s; omega
 refine ent Tryz.func89 rfl Tryz.call89 rfl (fun C => ?_); simp only [go_sem, st0, Tryz.ntmps89]
 cases h2 : nZ c.fDirs s
 ·have e : xE c s = false := by simp [xE, h2]
  have q0 := @h2; refine fC (a3V c.fDirs s (by omega)) ?_
  first | refine aB (Sees.frz 2 rfl) ?_ | refine aB (Sees.frz 1 rfl) ?_ | refine aB (Sees.frz 3 rfl) ?_
  simp only [go_sem]
  exact aA ⟨⟨_, rfl, by simp only [go_sem, a5o, a5p, e, iT, iU, List.map_nil]; try simp⟩, by simp [aK]⟩
 ·have e : xE c s = true := by simp [xE, h2, hcur]
  have ha := a3X c.fDirs [s] (by omega) (by omega)
  have hk := mG c c.fStore (rmD c.fDirs s) (tdS c.fDirs [s]) (by omega) (by omega) (by omega) hn
  have qH := @h2; repeat' (with_reducible first | refine nY ?_ | (refine mX ?_; try simp only [go_sem, qH]) | refine kD ?_ | (apply rE [7,8,9,13,14] [] [0,1,2,3,4,5,6] [0,1,2,3,4,5,6] ((.c 7 [] [0,1,2,3,4,5] (.c 8 [] [0,1,2,3] (.c 9 [10,11,12] [10,11,12] (.c 13 [] [10,11,12] (.c 14 [15] [12,15] .n .n) .n) (.c 13 [] [0,1,2,3] (.c 9 [10,11,12] [10,11,12] (.c 14 [15] [12,15] .n .n) .n) .n)) (.c 13 [] [0,1,2,3,4,5] (.c 8 [] [0,1,2,3] (.c 9 [10,11,12] [10,11,12] (.c 14 [15] [12,15] .n .n) .n) .n) .n)) (.c 13 [] [0,1,2,3,4,5,6] (.c 7 [] [0,1,2,3,4,5] (.c 8 [] [0,1,2,3] (.c 9 [10,11,12] [10,11,12] (.c 14 [15] [12,15] .n .n) .n) .n) .n) .n))) (by simp only [go_sem]; rfl) (by simp only [go_sem]; rfl) (by simp only [go_sem]; rfl) (by decide +kernel); (focus simp only [go_sem]; done)) | exact dO | refine cB (uX ?_) ?_ | refine cK (aX ?_) ?_ | refine cO (aX ?_) ?_ | exact bZ | (refine a3m [(2, 3)] (by simp only [go_sem]; rfl) ?_; exact rfl) | exact oH | exact uB | refine rD ?_ | refine cP (a3V c.fDirs s (by omega)) ?_ | refine cP ha ?_ | refine cP hk ?_ | refine aO ?_ | fail)
  exact aA ⟨⟨_, rfl, by simp only [go_sem, a5o, a5p, e, a3g, a3h]; try simp⟩, by simp [aK]⟩
end Go.Proofs.YteaaopodnbjpoaaGreat
end
section
set_option maxRecDepth 100000
set_option maxHeartbeats 4000000
namespace Go.Proofs.YteaaopodnbjpoaaGreat
open Go Go.Sx Go.RowKit Go.Proofs Go.Sx.Clos
theorem a7i (c : TCatalog) (u : Int) (o : TChange) (h : wCatalog c + wChange o ≤ 1900000) : FnC Tryz.prog 49 [bK c, oi u, yQ o] (.t [(true, (jV (fD c u o).1).cells), (false, [.w 100 3 ((fD c u o).2.1.map dH)]), (false, [.d (bv (fD c u o).2.2)])]) := by
 have hcw : wCatalog c = aL c.fStore + aP c.fDirs + aH c.fResults := rfl
 have how : wChange o = wFile o.fFile + wDir o.fDir := rfl
 have hdw : wDir o.fDir = o.fDir.fName.size + bT o.fDir.fQuery := rfl
 have hsw : aL c.fStore = aT c.fStore.fSchema + bY c.fStore.fFiles := rfl
 refine ent Tryz.func49 rfl Tryz.call49 rfl (fun C => ?_); simp only [go_sem, st0, Tryz.ntmps49]
 cases hu : inB u 0 2
 ·have e : fD c u o = (c, [], false) := by simp [fD, hu]
  have q0 := @hu; refine a1I (dW u) (bI c (by omega)) (dP c (by omega)) ?_
  exact aA ⟨⟨_, rfl, by simp only [go_sem, e, List.map_nil]; try simp⟩, by simp [aK]⟩
 cases hc : kH c
 ·have e : fD c u o = (c, [], false) := by simp [fD, hc]
  have q0 := @hu; have q1 := @hc; refine a8J (dW u) (bI c (by omega)) (dP c (by omega)) ?_
  exact aA ⟨⟨_, rfl, by simp only [go_sem, e, List.map_nil]; try simp⟩, by simp [aK]⟩
 have e0 : fD c u o = jQ c u o := by simp [fD, hu, hc]
 by_cases k1 : o.fKind = 1
 ·skip
  have g1 : decide (o.fKind = 1) = true := by simp [k1]
  have g2 : decide (o.fKind = 2) = false := by simp [k1]
  have g3 : decide (o.fKind = 3) = false := by simp [k1]
  have g4 : decide (o.fKind = 4) = false := by simp [k1]
  have g5 : decide (o.fKind = 5) = false := by simp [k1]
  by_cases ho : o.fFile.fOwner = u
  ·have vo : decide (o.fFile.fOwner = u) = true := by simp [ho]
   have e : fD c u o = (uE c o.fFile, wH c o.fFile, rU c o.fFile) := by rw [e0]; simp [jQ, mP, k1, ho]
   have q0 := @hu; have q1 := @hc; have q2 := @g1; have q3 := @g2; have q4 := @g3; have q5 := @g4; have q6 := @g5; have q7 := @vo; refine b6G (dW u) (bI c (by omega)) (b1B c o.fFile (by omega)) ?_
   exact aA ⟨⟨_, rfl, by simp only [go_sem, e, List.map_nil]; try simp⟩, by simp [aK]⟩
  ·have vo : decide (o.fFile.fOwner = u) = false := by simp [ho]
   have e : fD c u o = (c, [], false) := by rw [e0]; simp [jQ, mP, k1, ho]
   have q0 := @hu; have q1 := @hc; have q2 := @g1; have q3 := @g2; have q4 := @g3; have q5 := @g4; have q6 := @g5; have q7 := @vo; refine b6G (dW u) (bI c (by omega)) (dP c (by omega)) ?_
   exact aA ⟨⟨_, rfl, by simp only [go_sem, e, List.map_nil]; try simp⟩, by simp [aK]⟩
 by_cases k2 : o.fKind = 2
 ·skip
  have g1 : decide (o.fKind = 1) = false := by simp [k2]
  have g2 : decide (o.fKind = 2) = true := by simp [k2]
  have g3 : decide (o.fKind = 3) = false := by simp [k2]
  have g4 : decide (o.fKind = 4) = false := by simp [k2]
  have g5 : decide (o.fKind = 5) = false := by simp [k2]
  by_cases h1 : 0 ≤ ixF o.fFile.fID c.fStore.fFiles
  case neg =>
   have vi : decide (0 ≤ ixF o.fFile.fID c.fStore.fFiles) = false := by simp [h1]
   have e : fD c u o = (c, [], false) := by rw [e0]; simp [jQ, mP, k2, h1]
   have q0 := @hu; have q1 := @hc; have q2 := @g1; have q3 := @g2; have q4 := @g3; have q5 := @g4; have q6 := @g5; have q7 := @vi; refine b4O (dW u) (bI c (by omega)) (iK c.fStore o.fFile.fID (by omega)) (dP c (by omega)) ?_
   exact aA ⟨⟨_, rfl, by simp only [go_sem, e, List.map_nil]; try simp⟩, by simp [aK]⟩
  have vi : decide (0 ≤ ixF o.fFile.fID c.fStore.fFiles) = true := by simp [h1]
  cases h2 : a7Z (iP o.fFile.fID c.fStore.fFiles) u
  ·skip
   have e : fD c u o = (c, [], false) := by rw [e0]; simp [jQ, mP, k2, h1, h2]
   have q0 := @hu; have q1 := @hc; have q2 := @g1; have q3 := @g2; have q4 := @g3; have q5 := @g4; have q6 := @g5; have q7 := @vi; have q8 := @h2; refine b6H (dW u) (bI c (by omega)) (iK c.fStore o.fFile.fID (by omega)) (nT (iP o.fFile.fID c.fStore.fFiles) u) (dP c (by omega)) ?_
   exact aA ⟨⟨_, rfl, by simp only [go_sem, e, List.map_nil]; try simp⟩, by simp [aK]⟩
  by_cases ho : o.fFile.fOwner = u
  ·have vo : decide (o.fFile.fOwner = u) = true := by simp [ho]
   have e : fD c u o = (a2f c o.fFile, a2g c o.fFile, uG c o.fFile) := by rw [e0]; simp [jQ, mP, k2, h1, h2, ho]
   have q0 := @hu; have q1 := @hc; have q2 := @g1; have q3 := @g2; have q4 := @g3; have q5 := @g4; have q6 := @g5; have q7 := @vi; have q8 := @h2; have q9 := @vo; refine b7x (dW u) (bI c (by omega)) (iK c.fStore o.fFile.fID (by omega)) (nT (iP o.fFile.fID c.fStore.fFiles) u) (a5I c o.fFile (by omega)) ?_
   exact aA ⟨⟨_, rfl, by simp only [go_sem, e, List.map_nil]; try simp⟩, by simp [aK]⟩
  ·have vo : decide (o.fFile.fOwner = u) = false := by simp [ho]
   have e : fD c u o = (c, [], false) := by rw [e0]; simp [jQ, mP, k2, h1, h2, ho]
   have q0 := @hu; have q1 := @hc; have q2 := @g1; have q3 := @g2; have q4 := @g3; have q5 := @g4; have q6 := @g5; have q7 := @vi; have q8 := @h2; have q9 := @vo; refine b7x (dW u) (bI c (by omega)) (iK c.fStore o.fFile.fID (by omega)) (nT (iP o.fFile.fID c.fStore.fFiles) u) (dP c (by omega)) ?_
   exact aA ⟨⟨_, rfl, by simp only [go_sem, e, List.map_nil]; try simp⟩, by simp [aK]⟩
 by_cases k3 : o.fKind = 3
 ·skip
  have g1 : decide (o.fKind = 1) = false := by simp [k3]
  have g2 : decide (o.fKind = 2) = false := by simp [k3]
  have g3 : decide (o.fKind = 3) = true := by simp [k3]
  have g4 : decide (o.fKind = 4) = false := by simp [k3]
  have g5 : decide (o.fKind = 5) = false := by simp [k3]
  by_cases h1 : 0 ≤ ixF o.fID c.fStore.fFiles
  case neg =>
   have vi : decide (0 ≤ ixF o.fID c.fStore.fFiles) = false := by simp [h1]
   have e : fD c u o = (c, [], false) := by rw [e0]; simp [jQ, mP, k3, h1]
   have q0 := @hu; have q1 := @hc; have q2 := @g1; have q3 := @g2; have q4 := @g3; have q5 := @g4; have q6 := @g5; have q7 := @vi; refine b4O (dW u) (bI c (by omega)) (iK c.fStore o.fID (by omega)) (dP c (by omega)) ?_
   exact aA ⟨⟨_, rfl, by simp only [go_sem, e, List.map_nil]; try simp⟩, by simp [aK]⟩
  have vi : decide (0 ≤ ixF o.fID c.fStore.fFiles) = true := by simp [h1]
  cases h2 : a7Z (iP o.fID c.fStore.fFiles) u
  ·skip
   have e : fD c u o = (c, [], false) := by rw [e0]; simp [jQ, mP, k3, h1, h2]
   have q0 := @hu; have q1 := @hc; have q2 := @g1; have q3 := @g2; have q4 := @g3; have q5 := @g4; have q6 := @g5; have q7 := @vi; have q8 := @h2; refine b6H (dW u) (bI c (by omega)) (iK c.fStore o.fID (by omega)) (nT (iP o.fID c.fStore.fFiles) u) (dP c (by omega)) ?_
   exact aA ⟨⟨_, rfl, by simp only [go_sem, e, List.map_nil]; try simp⟩, by simp [aK]⟩
  ·skip
   have e : fD c u o = (a2d c o.fID, a2e c o.fID, uF c o.fID) := by rw [e0]; simp [jQ, mP, k3, h1, h2]
   have q0 := @hu; have q1 := @hc; have q2 := @g1; have q3 := @g2; have q4 := @g3; have q5 := @g4; have q6 := @g5; have q7 := @vi; have q8 := @h2; refine b6H (dW u) (bI c (by omega)) (iK c.fStore o.fID (by omega)) (nT (iP o.fID c.fStore.fFiles) u) (a5G c o.fID (by omega)) ?_
   exact aA ⟨⟨_, rfl, by simp only [go_sem, e, List.map_nil]; try simp⟩, by simp [aK]⟩
 by_cases k4 : o.fKind = 4
 ·skip
  have g1 : decide (o.fKind = 1) = false := by simp [k4]
  have g2 : decide (o.fKind = 2) = false := by simp [k4]
  have g3 : decide (o.fKind = 3) = false := by simp [k4]
  have g4 : decide (o.fKind = 4) = true := by simp [k4]
  have g5 : decide (o.fKind = 5) = false := by simp [k4]
  have e : fD c u o = (a0d c o.fDir, a0e c o.fDir, oF c o.fDir) := by rw [e0]; simp [jQ, mP, k4]
  have q0 := @hu; have q1 := @hc; have q2 := @g1; have q3 := @g2; have q4 := @g3; have q5 := @g4; have q6 := @g5; refine b8l (dW u) (bI c (by omega)) (a5r c o.fDir (by omega)) ?_
  exact aA ⟨⟨_, rfl, by simp only [go_sem, e, List.map_nil]; try simp⟩, by simp [aK]⟩
 by_cases k5 : o.fKind = 5
 ·skip
  have g1 : decide (o.fKind = 1) = false := by simp [k5]
  have g2 : decide (o.fKind = 2) = false := by simp [k5]
  have g3 : decide (o.fKind = 3) = false := by simp [k5]
  have g4 : decide (o.fKind = 4) = false := by simp [k5]
  have g5 : decide (o.fKind = 5) = true := by simp [k5]
  have hrw := b2B c.fDirs o.fDir.fName
  have hp := a0N c.fDirs o.fDir.fName
  have hn : (tdS c.fDirs [o.fDir.fName]).length ≤ 4300000 := by have := a3f c.fDirs o.fDir.fName; omega
  have er : fD c u o = (a5o c o.fDir.fName, a5p c o.fDir.fName, xE c o.fDir.fName) := by rw [e0]; simp [jQ, k5]
  cases hr : nZ c.fDirs o.fDir.fName
  ·have hf : xE c o.fDir.fName = false := by simp [xE, hr]
   have e : fD c u o = (c, [], false) := by rw [er]; simp only [a5o, a5p, hf, iT, iU]
   have q0 := @hu; have q1 := @hc; have q2 := @hr; have q3 := @g1; have q4 := @g2; have q5 := @g3; have q6 := @g4; have q7 := @g5; refine b4O (dW u) (bI c (by omega)) (a3U c.fDirs o.fDir.fName (by omega)) (dP c (by omega)) ?_
   exact aA ⟨⟨_, rfl, by simp only [go_sem, e, List.map_nil]; try simp⟩, by simp [aK]⟩
  ·have hf : xE c o.fDir.fName = true := by simp [xE, hr, hc]
   have e : fD c u o = (goC true c c.fStore (rmD c.fDirs o.fDir.fName) (tdS c.fDirs [o.fDir.fName]), goD true c c.fStore (rmD c.fDirs o.fDir.fName) (tdS c.fDirs [o.fDir.fName]), true) := by rw [er]; simp only [a5o, a5p, hf]
   have ha := a3W c.fDirs [o.fDir.fName] (by omega) (by omega)
   have hk := a3i c c.fStore (rmD c.fDirs o.fDir.fName) (tdS c.fDirs [o.fDir.fName]) (b6J hf) (by omega) (by omega) (by omega) hn
   have qH := aI @hu (aI @hc (aI @hr (aI @g1 (aI @g2 (aI @g3 (aI @g4 @g5)))))); repeat' (with_reducible first | refine nY ?_ | (refine mX ?_; try simp only [go_sem, qH]) | refine kD ?_ | (apply rE [9,10,11,15] [] [0,1,2,3,4,5,6,7,8] [0,1,2,3,4,5,6,7,8] ((.c 9 [] [0,1,2,3,4,5] (.c 10 [] [0,1,2,3] (.c 11 [12,13,14] [12,13,14] (.c 15 [16,17] [16,17] .n .n) .n) .n) .n)) (by simp only [go_sem]; rfl) (by simp only [go_sem]; rfl) (by simp only [go_sem]; rfl) (by decide +kernel); (focus simp only [go_sem]; done)) | exact dO | refine cB (uX ?_) ?_ | refine cK (aX ?_) ?_ | refine cO (aX ?_) ?_ | exact bZ | exact oH | exact uB | refine rD ?_ | refine cP (dW u) ?_ | refine cP (bI c (by omega)) ?_ | refine cP (a3U c.fDirs o.fDir.fName (by omega)) ?_ | refine cP ha ?_ | refine cP hk ?_ | refine aO ?_ | fail)
   exact aA ⟨⟨_, rfl, by simp only [go_sem, e, List.map_nil]; try simp⟩, by simp [aK]⟩
 have g1 : decide (o.fKind = 1) = false := by simp [k1]
 have g2 : decide (o.fKind = 2) = false := by simp [k2]
 have g3 : decide (o.fKind = 3) = false := by simp [k3]
 have g4 : decide (o.fKind = 4) = false := by simp [k4]
 have g5 : decide (o.fKind = 5) = false := by simp [k5]
 have e : fD c u o = (c, [], false) := by rw [e0]; simp [jQ, mP, k1, k2, k3, k4, k5]
 have q0 := @hu; have q1 := @hc; have q2 := @g1; have q3 := @g2; have q4 := @g3; have q5 := @g4; have q6 := @g5; refine b8l (dW u) (bI c (by omega)) (dP c (by omega)) ?_
 exact aA ⟨⟨_, rfl, by simp only [go_sem, e, List.map_nil]; try simp⟩, by simp [aK]⟩
theorem a7j (c : TCatalog) (u : Int) (o : TChange) (h : wCatalog c + wChange o ≤ 1900000) : FnC Tryz.prog 41 [bK c, oi u, yQ o] (.t [(true, (bK (fD c u o).1).cells), (false, [.d (.sl ((fD c u o).2.1.map dH))]), (false, [.d (bv (fD c u o).2.2)])]) := by
 have hcw : wCatalog c = aL c.fStore + aP c.fDirs + aH c.fResults := rfl
 have how : wChange o = wFile o.fFile + wDir o.fDir := rfl
 have hdw : wDir o.fDir = o.fDir.fName.size + bT o.fDir.fQuery := rfl
 have hsw : aL c.fStore = aT c.fStore.fSchema + bY c.fStore.fFiles := rfl
 refine ent Tryz.func41 rfl Tryz.call41 rfl (fun C => ?_); simp only [go_sem, st0, Tryz.ntmps41]
 cases hc : kH c
 ·have e : fD c u o = (c, [], false) := by simp [fD, hc]
  have q0 := @hc; refine a1I (bG c (by omega)) (bE c (by omega)) (aW u 0 2) ?_
  first | refine aB (Sees.frz 9 rfl) ?_ | refine aB (Sees.frz 8 rfl) ?_ | refine aB (Sees.frz 7 rfl) ?_ | refine aB (Sees.frz 6 rfl) ?_ | refine aB (Sees.frz 5 rfl) ?_ | refine aB (Sees.frz 4 rfl) ?_
  simp only [go_sem]
  exact aA ⟨⟨_, rfl, by simp only [go_sem, e, List.map_nil]; try simp⟩, by simp [aK]⟩
 cases hu : inB u 0 2
 ·have e : fD c u o = (c, [], false) := by simp [fD, hu]
  have q0 := @hu; have q1 := @hc; refine a8J (bG c (by omega)) (bE c (by omega)) (aW u 0 2) ?_
  first | refine aB (Sees.frz 9 rfl) ?_ | refine aB (Sees.frz 8 rfl) ?_ | refine aB (Sees.frz 7 rfl) ?_ | refine aB (Sees.frz 6 rfl) ?_ | refine aB (Sees.frz 5 rfl) ?_ | refine aB (Sees.frz 4 rfl) ?_
  simp only [go_sem]
  exact aA ⟨⟨_, rfl, by simp only [go_sem, e, List.map_nil]; try simp⟩, by simp [aK]⟩
 have e0 : fD c u o = jQ c u o := by simp [fD, hu, hc]
 by_cases k1 : o.fKind = 1
 ·skip
  have g1 : decide (o.fKind = 1) = true := by simp [k1]
  have g2 : decide (o.fKind = 2) = false := by simp [k1]
  have g3 : decide (o.fKind = 3) = false := by simp [k1]
  have g4 : decide (o.fKind = 4) = false := by simp [k1]
  have g5 : decide (o.fKind = 5) = false := by simp [k1]
  by_cases ho : o.fFile.fOwner = u
  ·have vo : decide (o.fFile.fOwner = u) = true := by simp [ho]
   have hk := b1C c o.fFile (by omega)
   cases hB : rU c o.fFile
   ·obtain ⟨n1, n2⟩ := b8n hB
    rw [hB, n1, n2] at hk
    have e : fD c u o = (c, [], false) := by rw [e0]; simp [jQ, mP, k1, ho, hB, n1, n2]
    have q0 := @hu; have q1 := @hc; have q2 := @g1; have q3 := @g2; have q4 := @g3; have q5 := @g4; have q6 := @g5; have q7 := @vo; refine b4O (bG c (by omega)) (bE c (by omega)) (aW u 0 2) hk ?_
    first | refine aB (Sees.frz 9 rfl) ?_ | refine aB (Sees.frz 8 rfl) ?_ | refine aB (Sees.frz 7 rfl) ?_ | refine aB (Sees.frz 6 rfl) ?_ | refine aB (Sees.frz 5 rfl) ?_ | refine aB (Sees.frz 4 rfl) ?_
    simp only [go_sem]
    exact aA ⟨⟨_, rfl, by simp only [go_sem, e, List.map_nil]; try simp⟩, by simp [aK]⟩
   ·rw [hB] at hk
    have e : fD c u o = (uE c o.fFile, wH c o.fFile, true) := by rw [e0]; simp [jQ, mP, k1, ho, hB]
    have q0 := @hu; have q1 := @hc; have q2 := @g1; have q3 := @g2; have q4 := @g3; have q5 := @g4; have q6 := @g5; have q7 := @vo; refine b4O (bG c (by omega)) (bE c (by omega)) (aW u 0 2) hk ?_
    exact aA ⟨⟨_, rfl, by simp only [go_sem, e, List.map_nil]; try simp⟩, by simp [aK]⟩
  ·have vo : decide (o.fFile.fOwner = u) = false := by simp [ho]
   have e : fD c u o = (c, [], false) := by rw [e0]; simp [jQ, mP, k1, ho]
   have q0 := @hu; have q1 := @hc; have q2 := @g1; have q3 := @g2; have q4 := @g3; have q5 := @g4; have q6 := @g5; have q7 := @vo; refine b6G (bG c (by omega)) (bE c (by omega)) (aW u 0 2) ?_
   first | refine aB (Sees.frz 9 rfl) ?_ | refine aB (Sees.frz 8 rfl) ?_ | refine aB (Sees.frz 7 rfl) ?_ | refine aB (Sees.frz 6 rfl) ?_ | refine aB (Sees.frz 5 rfl) ?_ | refine aB (Sees.frz 4 rfl) ?_
   simp only [go_sem]
   exact aA ⟨⟨_, rfl, by simp only [go_sem, e, List.map_nil]; try simp⟩, by simp [aK]⟩
 by_cases k2 : o.fKind = 2
 ·skip
  have g1 : decide (o.fKind = 1) = false := by simp [k2]
  have g2 : decide (o.fKind = 2) = true := by simp [k2]
  have g3 : decide (o.fKind = 3) = false := by simp [k2]
  have g4 : decide (o.fKind = 4) = false := by simp [k2]
  have g5 : decide (o.fKind = 5) = false := by simp [k2]
  by_cases ho : o.fFile.fOwner = u
  case neg =>
   have vo : decide (o.fFile.fOwner = u) = false := by simp [ho]
   have e : fD c u o = (c, [], false) := by rw [e0]; simp [jQ, mP, k2, ho]
   have q0 := @hu; have q1 := @hc; have q2 := @g1; have q3 := @g2; have q4 := @g3; have q5 := @g4; have q6 := @g5; have q7 := @vo; refine b6G (bG c (by omega)) (bE c (by omega)) (aW u 0 2) ?_
   first | refine aB (Sees.frz 9 rfl) ?_ | refine aB (Sees.frz 8 rfl) ?_ | refine aB (Sees.frz 7 rfl) ?_ | refine aB (Sees.frz 6 rfl) ?_ | refine aB (Sees.frz 5 rfl) ?_ | refine aB (Sees.frz 4 rfl) ?_
   simp only [go_sem]
   exact aA ⟨⟨_, rfl, by simp only [go_sem, e, List.map_nil]; try simp⟩, by simp [aK]⟩
  have vo : decide (o.fFile.fOwner = u) = true := by simp [ho]
  have hk := a5J c o.fFile (by omega)
  cases hB : uG c o.fFile
  ·obtain ⟨n1, n2⟩ := b8o hB
   rw [hB, n1, n2] at hk
   have e : fD c u o = (c, [], false) := by rw [e0]; simp [jQ, k2, ho, hB, n1, n2]
   have q0 := @hu; have q1 := @hc; have q2 := @g1; have q3 := @g2; have q4 := @g3; have q5 := @g4; have q6 := @g5; have q7 := @vo; refine b9q (bG c (by omega)) (bE c (by omega)) (aW u 0 2) (fH c.fStore o.fFile.fID (by omega)) hk ?_
   first | refine aB (Sees.frz 9 rfl) ?_ | refine aB (Sees.frz 8 rfl) ?_ | refine aB (Sees.frz 7 rfl) ?_ | refine aB (Sees.frz 6 rfl) ?_ | refine aB (Sees.frz 5 rfl) ?_ | refine aB (Sees.frz 4 rfl) ?_
   simp only [go_sem]
   exact aA ⟨⟨_, rfl, by simp only [go_sem, e, List.map_nil]; try simp⟩, by simp [aK]⟩
  rw [hB] at hk
  by_cases h1 : 0 ≤ ixF o.fFile.fID c.fStore.fFiles
  case neg =>
   have vi : decide (0 ≤ ixF o.fFile.fID c.fStore.fFiles) = false := by simp [h1]
   have e : fD c u o = (c, [], false) := by rw [e0]; simp [jQ, mP, k2, ho, h1]
   have q0 := @hu; have q1 := @hc; have q2 := @g1; have q3 := @g2; have q4 := @g3; have q5 := @g4; have q6 := @g5; have q7 := @vo; have q8 := @vi; refine b6H (bG c (by omega)) (bE c (by omega)) (aW u 0 2) (fH c.fStore o.fFile.fID (by omega)) hk ?_
   first | refine aB (Sees.frz 9 rfl) ?_ | refine aB (Sees.frz 8 rfl) ?_ | refine aB (Sees.frz 7 rfl) ?_ | refine aB (Sees.frz 6 rfl) ?_ | refine aB (Sees.frz 5 rfl) ?_ | refine aB (Sees.frz 4 rfl) ?_
   simp only [go_sem]
   exact aA ⟨⟨_, rfl, by simp only [go_sem, e, List.map_nil]; try simp⟩, by simp [aK]⟩
  have vi : decide (0 ≤ ixF o.fFile.fID c.fStore.fFiles) = true := by simp [h1]
  cases h2 : a7Z (iP o.fFile.fID c.fStore.fFiles) u
  ·skip
   have e : fD c u o = (c, [], false) := by rw [e0]; simp [jQ, mP, k2, ho, h1, h2]
   have q0 := @hu; have q1 := @hc; have q2 := @g1; have q3 := @g2; have q4 := @g3; have q5 := @g4; have q6 := @g5; have q7 := @vo; have q8 := @vi; have q9 := @h2; refine b7y (bG c (by omega)) (bE c (by omega)) (aW u 0 2) (fH c.fStore o.fFile.fID (by omega)) (qY (iP o.fFile.fID c.fStore.fFiles) u) hk ?_
   first | refine aB (Sees.frz 9 rfl) ?_ | refine aB (Sees.frz 8 rfl) ?_ | refine aB (Sees.frz 7 rfl) ?_ | refine aB (Sees.frz 6 rfl) ?_ | refine aB (Sees.frz 5 rfl) ?_ | refine aB (Sees.frz 4 rfl) ?_
   simp only [go_sem]
   exact aA ⟨⟨_, rfl, by simp only [go_sem, e, List.map_nil]; try simp⟩, by simp [aK]⟩
  ·skip
   have e : fD c u o = (a2f c o.fFile, a2g c o.fFile, true) := by rw [e0]; simp [jQ, mP, k2, ho, h1, h2, hB]
   have q0 := @hu; have q1 := @hc; have q2 := @g1; have q3 := @g2; have q4 := @g3; have q5 := @g4; have q6 := @g5; have q7 := @vo; have q8 := @vi; have q9 := @h2; refine b7y (bG c (by omega)) (bE c (by omega)) (aW u 0 2) (fH c.fStore o.fFile.fID (by omega)) (qY (iP o.fFile.fID c.fStore.fFiles) u) hk ?_
   exact aA ⟨⟨_, rfl, by simp only [go_sem, e, List.map_nil]; try simp⟩, by simp [aK]⟩
 by_cases k3 : o.fKind = 3
 ·skip
  have g1 : decide (o.fKind = 1) = false := by simp [k3]
  have g2 : decide (o.fKind = 2) = false := by simp [k3]
  have g3 : decide (o.fKind = 3) = true := by simp [k3]
  have g4 : decide (o.fKind = 4) = false := by simp [k3]
  have g5 : decide (o.fKind = 5) = false := by simp [k3]
  have hk := a5H c o.fID (by omega)
  cases hB : uF c o.fID
  ·obtain ⟨n1, n2⟩ := b8p hB
   rw [hB, n1, n2] at hk
   have e : fD c u o = (c, [], false) := by rw [e0]; simp [jQ, k3, hB, n1, n2]
   have q0 := @hu; have q1 := @hc; have q2 := @g1; have q3 := @g2; have q4 := @g3; have q5 := @g4; have q6 := @g5; refine c0e (bG c (by omega)) (bE c (by omega)) (aW u 0 2) (fH c.fStore o.fID (by omega)) hk ?_
   first | refine aB (Sees.frz 9 rfl) ?_ | refine aB (Sees.frz 8 rfl) ?_ | refine aB (Sees.frz 7 rfl) ?_ | refine aB (Sees.frz 6 rfl) ?_ | refine aB (Sees.frz 5 rfl) ?_ | refine aB (Sees.frz 4 rfl) ?_
   simp only [go_sem]
   exact aA ⟨⟨_, rfl, by simp only [go_sem, e, List.map_nil]; try simp⟩, by simp [aK]⟩
  rw [hB] at hk
  by_cases h1 : 0 ≤ ixF o.fID c.fStore.fFiles
  case neg =>
   have vi : decide (0 ≤ ixF o.fID c.fStore.fFiles) = false := by simp [h1]
   have e : fD c u o = (c, [], false) := by rw [e0]; simp [jQ, mP, k3, h1]
   have q0 := @hu; have q1 := @hc; have q2 := @g1; have q3 := @g2; have q4 := @g3; have q5 := @g4; have q6 := @g5; have q7 := @vi; refine b9q (bG c (by omega)) (bE c (by omega)) (aW u 0 2) (fH c.fStore o.fID (by omega)) hk ?_
   first | refine aB (Sees.frz 9 rfl) ?_ | refine aB (Sees.frz 8 rfl) ?_ | refine aB (Sees.frz 7 rfl) ?_ | refine aB (Sees.frz 6 rfl) ?_ | refine aB (Sees.frz 5 rfl) ?_ | refine aB (Sees.frz 4 rfl) ?_
   simp only [go_sem]
   exact aA ⟨⟨_, rfl, by simp only [go_sem, e, List.map_nil]; try simp⟩, by simp [aK]⟩
  have vi : decide (0 ≤ ixF o.fID c.fStore.fFiles) = true := by simp [h1]
  cases h2 : a7Z (iP o.fID c.fStore.fFiles) u
  ·skip
   have e : fD c u o = (c, [], false) := by rw [e0]; simp [jQ, mP, k3, h1, h2]
   have q0 := @hu; have q1 := @hc; have q2 := @g1; have q3 := @g2; have q4 := @g3; have q5 := @g4; have q6 := @g5; have q7 := @vi; have q8 := @h2; refine b9r (bG c (by omega)) (bE c (by omega)) (aW u 0 2) (fH c.fStore o.fID (by omega)) (qY (iP o.fID c.fStore.fFiles) u) hk ?_
   first | refine aB (Sees.frz 9 rfl) ?_ | refine aB (Sees.frz 8 rfl) ?_ | refine aB (Sees.frz 7 rfl) ?_ | refine aB (Sees.frz 6 rfl) ?_ | refine aB (Sees.frz 5 rfl) ?_ | refine aB (Sees.frz 4 rfl) ?_
   simp only [go_sem]
   exact aA ⟨⟨_, rfl, by simp only [go_sem, e, List.map_nil]; try simp⟩, by simp [aK]⟩
  ·skip
   have e : fD c u o = (a2d c o.fID, a2e c o.fID, true) := by rw [e0]; simp [jQ, mP, k3, h1, h2, hB]
   have q0 := @hu; have q1 := @hc; have q2 := @g1; have q3 := @g2; have q4 := @g3; have q5 := @g4; have q6 := @g5; have q7 := @vi; have q8 := @h2; refine b9r (bG c (by omega)) (bE c (by omega)) (aW u 0 2) (fH c.fStore o.fID (by omega)) (qY (iP o.fID c.fStore.fFiles) u) hk ?_
   exact aA ⟨⟨_, rfl, by simp only [go_sem, e, List.map_nil]; try simp⟩, by simp [aK]⟩
 by_cases k4 : o.fKind = 4
 ·skip
  have g1 : decide (o.fKind = 1) = false := by simp [k4]
  have g2 : decide (o.fKind = 2) = false := by simp [k4]
  have g3 : decide (o.fKind = 3) = false := by simp [k4]
  have g4 : decide (o.fKind = 4) = true := by simp [k4]
  have g5 : decide (o.fKind = 5) = false := by simp [k4]
  have hk := a5s c o.fDir (by omega)
  cases hB : oF c o.fDir
  ·obtain ⟨n1, n2⟩ := b8q hB
   rw [hB, n1, n2] at hk
   have e : fD c u o = (c, [], false) := by rw [e0]; simp [jQ, mP, k4, hB, n1, n2]
   have q0 := @hu; have q1 := @hc; have q2 := @g1; have q3 := @g2; have q4 := @g3; have q5 := @g4; have q6 := @g5; refine b6F (bG c (by omega)) (bE c (by omega)) (aW u 0 2) hk ?_
   first | refine aB (Sees.frz 9 rfl) ?_ | refine aB (Sees.frz 8 rfl) ?_ | refine aB (Sees.frz 7 rfl) ?_ | refine aB (Sees.frz 6 rfl) ?_ | refine aB (Sees.frz 5 rfl) ?_ | refine aB (Sees.frz 4 rfl) ?_
   simp only [go_sem]
   exact aA ⟨⟨_, rfl, by simp only [go_sem, e, List.map_nil]; try simp⟩, by simp [aK]⟩
  ·rw [hB] at hk
   have e : fD c u o = (a0d c o.fDir, a0e c o.fDir, true) := by rw [e0]; simp [jQ, mP, k4, hB]
   have q0 := @hu; have q1 := @hc; have q2 := @g1; have q3 := @g2; have q4 := @g3; have q5 := @g4; have q6 := @g5; refine b6F (bG c (by omega)) (bE c (by omega)) (aW u 0 2) hk ?_
   exact aA ⟨⟨_, rfl, by simp only [go_sem, e, List.map_nil]; try simp⟩, by simp [aK]⟩
 by_cases k5 : o.fKind = 5
 ·skip
  have g1 : decide (o.fKind = 1) = false := by simp [k5]
  have g2 : decide (o.fKind = 2) = false := by simp [k5]
  have g3 : decide (o.fKind = 3) = false := by simp [k5]
  have g4 : decide (o.fKind = 4) = false := by simp [k5]
  have g5 : decide (o.fKind = 5) = true := by simp [k5]
  have hk := a5q c o.fDir.fName hc (by omega)
  cases hB : xE c o.fDir.fName
  ·obtain ⟨n1, n2⟩ := b8r hB
   rw [hB, n1, n2] at hk
   have e : fD c u o = (c, [], false) := by rw [e0]; simp [jQ, mP, k5, hB, n1, n2]
   have q0 := @hu; have q1 := @hc; have q2 := @g1; have q3 := @g2; have q4 := @g3; have q5 := @g4; have q6 := @g5; refine b6F (bG c (by omega)) (bE c (by omega)) (aW u 0 2) hk ?_
   first | refine aB (Sees.frz 9 rfl) ?_ | refine aB (Sees.frz 8 rfl) ?_ | refine aB (Sees.frz 7 rfl) ?_ | refine aB (Sees.frz 6 rfl) ?_ | refine aB (Sees.frz 5 rfl) ?_ | refine aB (Sees.frz 4 rfl) ?_
   simp only [go_sem]
   exact aA ⟨⟨_, rfl, by simp only [go_sem, e, List.map_nil]; try simp⟩, by simp [aK]⟩
  ·rw [hB] at hk
   have e : fD c u o = (a5o c o.fDir.fName, a5p c o.fDir.fName, true) := by rw [e0]; simp [jQ, mP, k5, hB]
   have q0 := @hu; have q1 := @hc; have q2 := @g1; have q3 := @g2; have q4 := @g3; have q5 := @g4; have q6 := @g5; refine b6F (bG c (by omega)) (bE c (by omega)) (aW u 0 2) hk ?_
   exact aA ⟨⟨_, rfl, by simp only [go_sem, e, List.map_nil]; try simp⟩, by simp [aK]⟩
 have g1 : decide (o.fKind = 1) = false := by simp [k1]
 have g2 : decide (o.fKind = 2) = false := by simp [k2]
 have g3 : decide (o.fKind = 3) = false := by simp [k3]
 have g4 : decide (o.fKind = 4) = false := by simp [k4]
 have g5 : decide (o.fKind = 5) = false := by simp [k5]
 have e : fD c u o = (c, [], false) := by rw [e0]; simp [jQ, mP, k1, k2, k3, k4, k5]
 have q0 := @hu; have q1 := @hc; have q2 := @g1; have q3 := @g2; have q4 := @g3; have q5 := @g4; have q6 := @g5; refine b8l (bG c (by omega)) (bE c (by omega)) (aW u 0 2) ?_
 first | refine aB (Sees.frz 9 rfl) ?_ | refine aB (Sees.frz 8 rfl) ?_ | refine aB (Sees.frz 7 rfl) ?_ | refine aB (Sees.frz 6 rfl) ?_ | refine aB (Sees.frz 5 rfl) ?_ | refine aB (Sees.frz 4 rfl) ?_
 simp only [go_sem]
 exact aA ⟨⟨_, rfl, by simp only [go_sem, e, List.map_nil]; try simp⟩, by simp [aK]⟩
end Go.Proofs.YteaaopodnbjpoaaGreat
end
section
namespace Go.Proofs.YteaaopodnbjpoaaGreat
open Go Go.Sx Go.RowKit Go.Proofs
theorem a2V (x : TFile) (h : wFile x ≤ 4200000) : FnC Tryz.prog 163 [dC x] (oi (1 + x.fAttrs.length)) := by
 unfold wFile dN at h
 refine ent Tryz.func163 rfl Tryz.call163 rfl (fun C => ?_); simp only [go_sem, st0, Tryz.ntmps163]
 refine aD ?_
 exact aA ⟨⟨_, rfl, by simp only [go_sem]⟩, trivial⟩
theorem a2W (x : TFile) (h : wFile x ≤ 4200000) : FnC Tryz.prog 192 [dC x] (oi (1 + x.fAttrs.length)) := by
 unfold wFile dN at h
 refine ent Tryz.func192 rfl Tryz.call192 rfl (fun C => ?_); simp only [go_sem, st0, Tryz.ntmps192]
 refine aD ?_
 exact aA ⟨⟨_, rfl, by simp only [go_sem]⟩, trivial⟩
end Go.Proofs.YteaaopodnbjpoaaGreat
end
