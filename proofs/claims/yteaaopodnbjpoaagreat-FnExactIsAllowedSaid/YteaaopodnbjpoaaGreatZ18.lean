/- Joined texts. -/
import Derived.Test.YteaaopodnbjpoaaGreatZ15
import Derived.Test.YteaaopodnbjpoaaGreatZ10
import Derived.Test.YteaaopodnbjpoaaGreatZ14
import Derived.Test.YteaaopodnbjpoaaGreatZ17
import Derived.Shelf.RegionOpenPlain
import Derived.WalkKit
import Derived.Lib.Walk
import Derived.Lib.SliceRun
import Derived.Lib.JoinLaws
import Derived.Lib.AppendZeros
import Derived.Lib.AppendZerosOnto
import Derived.Lib.Overlaps
import Derived.Laws.Externs
import Derived.Laws.NewBlocks
import Derived.Shelf.Spec.SlicesInsertGrow
import Derived.Test.YteaaopodnbjpoaaGreatZ07
import Derived.Test.YteaaopodnbjpoaaGreatZ08
import Derived.Test.YteaaopodnbjpoaaGreatZ09
import Derived.Deep.LoopGhost
import Derived.Deep.Draws
import Derived.Shelf.SlicesE.Kit
import Derived.Shelf.SlicesE.DeleteFunc
set_option linter.all false
section
set_option maxRecDepth 100000
set_option maxHeartbeats 4000000
namespace Go.Proofs.YteaaopodnbjpoaaGreat
open Go Go.Sx Go.RowKit Go.Proofs
theorem a9M (id : Int) (x : TFile) : FnC Tryz.prog 230 [dB x, .o (.q [iv id])] (ob (decide (x.fID = id))) := by
 refine ent Tryz.func230 rfl Tryz.call230 rfl (fun C => ?_); simp only [go_sem, st0, Tryz.ntmps230]
 refine aG ?_
 exact aA ⟨⟨_, rfl, by simp only [go_sem]⟩, trivial⟩
theorem xK (s : TStore) (id : Int) (hl : s.fFiles.length ≤ 4300000) : FnC Tryz.prog 177 [dH s, oi id] (oi (ixF id s.fFiles)) := by
 refine ent Tryz.func177 rfl Tryz.call177 rfl (fun C => ?_); simp only [go_sem, st0, Tryz.ntmps177]
 refine fQ (a0V _ _ (fun x => decide (x.fID = id)) s.fFiles (fun y _ => a9M id y) (by omega)) ?_
 exact aA ⟨⟨_, rfl, by simp only [go_sem, ixF]⟩, trivial⟩
theorem pW (s : TStore) (id : Int) (hl : s.fFiles.length ≤ 4300000) : FnC Tryz.prog 156 [dH s, oi id] (oi (ixF id s.fFiles)) := by
 refine ent Tryz.func156 rfl Tryz.call156 rfl (fun C => ?_); simp only [go_sem, st0, Tryz.ntmps156]
 refine aG ?_
 refine aQ (α := Nat) (fun k => [(5, oi k)]) (fun _ => []) (fun k => k ≤ s.fFiles.length ∧ ixF id s.fFiles = dQ (fun f => decide (f.fID = id)) (s.fFiles.drop k) k) (fun k => s.fFiles.length - k) 0 (fun _ => ?_) ?_ ?_ (fun k hk => ?_)
 ·simp only [go_sem]
 ·simp only [go_sem]; simp
 ·simp [ixF]
 ·obtain ⟨hk, hq⟩ := hk
  simp only [go_sem]
  refine aG ?_
  refine cnd rfl (fun h => ?_) (fun h => ?_)
  ·simp only [decide_eq_true_eq, Int.ofNat_lt] at h
   have hd := List.drop_eq_getElem_cons h
   rw [hd, dQ] at hq
   by_cases h2 : s.fFiles[k].fID = id
   ·rw [if_pos (by simp [h2])] at hq
    have q0 := @h; have q1 := @h2; have q2 := @decide_true; refine lL ?_
    exact aA ⟨⟨_, rfl, by simp only [go_sem, hq]⟩, trivial⟩
   ·rw [if_neg (by simp [h2])] at hq
    have q0 := @h; have q1 := @h2; have q2 := @decide_false; refine lL ?_
    refine aF (k + 1) ?_ ?_ ?_
    ·simp only [go_sem]; simp
    ·rw [hq]; exact ⟨h, by simp⟩
    ·omega
  ·simp only [decide_eq_false_iff_not] at h
   have e : k = s.fFiles.length := by omega
   subst e
   simp only [List.drop_length, dQ] at hq
   refine aG ?_
   exact aA ⟨⟨_, rfl, by simp only [go_sem, hq]⟩, trivial⟩
theorem a8k (s : TStore) (id : Int) (h : aM s ≤ 4300000) : FnC Tryz.prog 104 [dH s, oi id] (.t [(true, (a7s (iI id s.fFiles)).cells), (false, [.d (bv (decide (0 ≤ ixF id s.fFiles)))])]) := by
 have hl : s.fFiles.length ≤ 4300000 := by unfold aM dC at h; omega
 refine ent Tryz.func104 rfl Tryz.call104 rfl (fun C => ?_); simp only [go_sem, st0, Tryz.ntmps104]
 rcases ixF_cases id s.fFiles with e | ⟨p, e, hp, _⟩
 ·have e1 := a3G e
  have hz : ¬ (0 : Int) ≤ -1 := by omega
  have hk := xK s id hl
  rw [e] at hk
  have q0 := @hz; have q1 := @decide_false; refine mR hk ?_
  exact aA ⟨⟨_, rfl, by simp only [go_sem, e, e1, hz, decide_false, zF, List.map_nil]; try simp⟩, by simp [aH]⟩
 ·have e1 := a1f e hp
  have hz : (0 : Int) ≤ (p : Int) := by omega
  have hw := bB wFile s.fFiles hp
  have hx : s.fFiles[p].fAttrs.length ≤ 4300000 := by
   have e : s.fFiles[p].fAttrs.length ≤ wFile s.fFiles[p] := by unfold wFile dZ; omega
   unfold aM dC at h; omega
  have hk := xK s id hl
  rw [e] at hk
  have q0 := @hz; have q1 := @hp; have q2 := @decide_true; have q3 := @Int.toNat_natCast; refine yL hk (lZ s.fFiles[p] hx) ?_
  exact aA ⟨⟨_, rfl, by simp only [go_sem, e, e1, hz, decide_true]; try simp⟩, by simp [aH]⟩
theorem a8l (s : TStore) (id : Int) (h : aM s ≤ 4300000) : FnC Tryz.prog 84 [dH s, oi id] (.t [(true, (a7s (iI id s.fFiles)).cells), (false, [.d (bv (decide (0 ≤ ixF id s.fFiles)))])]) := by
 have hl : s.fFiles.length ≤ 4300000 := by unfold aM dC at h; omega
 refine ent Tryz.func84 rfl Tryz.call84 rfl (fun C => ?_); simp only [go_sem, st0, Tryz.ntmps84]
 rcases ixF_cases id s.fFiles with e | ⟨p, e, hp, _⟩
 ·have e1 := a3G e
  have hz : ¬ (0 : Int) ≤ -1 := by omega
  have hy : (-1 : Int) < 0 := by omega
  have hk := pW s id hl
  rw [e] at hk
  have q0 := @hy; have q1 := @decide_true; refine mR hk ?_
  exact aA ⟨⟨_, rfl, by simp only [go_sem, e, e1, hz, decide_false, zF, List.map_nil]; try simp⟩, by simp [aH]⟩
 ·have e1 := a1f e hp
  have hz : (0 : Int) ≤ (p : Int) := by omega
  have hy : ¬ (p : Int) < 0 := by omega
  have hw := bB wFile s.fFiles hp
  have hx : s.fFiles[p].fAttrs.length ≤ 4300000 := by
   have e : s.fFiles[p].fAttrs.length ≤ wFile s.fFiles[p] := by unfold wFile dZ; omega
   unfold aM dC at h; omega
  have hk := pW s id hl
  rw [e] at hk
  have q0 := @hy; have q1 := @hp; have q2 := @decide_false; have q3 := @Int.toNat_natCast; refine yL hk (oP s.fFiles[p] hx) ?_
  exact aA ⟨⟨_, rfl, by simp only [go_sem, e, e1, hz, decide_true]; try simp⟩, by simp [aH]⟩
theorem pF (s : TStore) (f : TFile) (hs : aM s ≤ 4300000) (hf : wFile f ≤ 4300000) : FnC Tryz.prog 179 [dH s, dB f] (.t [(true, (vZ (sN s f)).cells), (false, [.d (bv (iX s f))])]) := by
 have h1 : aT s.fSchema ≤ 4300000 := by unfold aM at hs; omega
 have h2 : s.fFiles.length ≤ 4300000 := by unfold aM dC at hs; omega
 have h3 : f.fAttrs.length ≤ 4300000 := by unfold wFile dZ at hf; omega
 have hk := xK s f.fID h2
 refine ent Tryz.func179 rfl Tryz.call179 rfl (fun C => ?_); simp only [go_sem, st0, Tryz.ntmps179]
 cases hv : bP s
 ·have e : iX s f = false := by simp [iX, hv]
  have q0 := @hv; refine a0N (fF s hs) hk (dX s hs) ?_
  exact aA ⟨⟨_, rfl, by simp only [go_sem, sN, e]; try simp⟩, by simp [aH]⟩
 rcases ixF_cases f.fID s.fFiles with ei | ⟨p, ei, hp, _⟩
 ·have e : iX s f = false := by simp [iX, ei]
  have hy : (-1 : Int) < 0 := by omega
  rw [ei] at hk
  have q0 := @hv; have q1 := @hy; have q2 := @decide_true; refine a8S (fF s hs) hk (dX s hs) ?_
  exact aA ⟨⟨_, rfl, by simp only [go_sem, sN, e]; try simp⟩, by simp [aH]⟩
 have hy : ¬ (p : Int) < 0 := by omega
 rw [ei] at hk
 cases ho : eB s.fSchema f
 ·have e : iX s f = false := by simp [iX, ho]
  have q0 := @hv; have q1 := @hy; have q2 := @ho; have q3 := @decide_false; refine b6e (fF s hs) hk (dX s hs) (gG s.fSchema f h1 hf) ?_
  exact aA ⟨⟨_, rfl, by simp only [go_sem, sN, e]; try simp⟩, by simp [aH]⟩
 ·have e : iX s f = true := by simp [iX, hv, ei, ho]
  have qH := aI @hv (aI @hy (aI @ho (aI @hp (aI @decide_false (aI @Int.toNat_natCast @a5J))))); repeat' (with_reducible first | refine nY ?_ | (refine mX ?_; try simp only [go_sem, qH]) | refine kD ?_ | (apply rE [4,6] [] [0,1,2,3] [0,1,2,3] ((.c 4 [5] [0,1,2,5] (.c 6 [] [] .n .n) .n)) (by simp only [go_sem]; rfl) (by simp only [go_sem]; rfl) (by simp only [go_sem]; rfl) (by decide +kernel); (focus simp only [go_sem]; done)) | exact dW | refine cO (uX ?_) ?_ | refine cZ (aX ?_) ?_ | refine dA (aX ?_) ?_ | exact cK | exact oH | exact uB | refine rD ?_ | refine cP (fF s hs) ?_ | refine cP hk ?_ | refine cP (dX s hs) ?_ | refine cP (gG s.fSchema f h1 hf) ?_ | refine cP (lZ f h3) ?_ | refine aO ?_ | fail)
  exact aA ⟨⟨_, rfl, by simp only [go_sem, sN, e, ei, Int.toNat_natCast, if_true, List.map_set]; try simp [bN]⟩, by simp [aH]⟩
theorem a3S (s : TStore) (f : TFile) (hs : aM s ≤ 4300000) (hf : wFile f ≤ 4300000) : FnC Tryz.prog 137 [dH s, dB f] (.t [(true, (vZ (sN s f)).cells), (false, [.d (bv (iX s f))])]) := by
 have h1 : aT s.fSchema ≤ 4300000 := by unfold aM at hs; omega
 have h2 : s.fFiles.length ≤ 4300000 := by unfold aM dC at hs; omega
 have h3 : f.fAttrs.length ≤ 4300000 := by unfold wFile dZ at hf; omega
 have hk := pW s f.fID h2
 refine ent Tryz.func137 rfl Tryz.call137 rfl (fun C => ?_); simp only [go_sem, st0, Tryz.ntmps137]
 cases hv : bP s
 ·have e : iX s f = false := by simp [iX, hv]
  have qH := @hv; repeat' (with_reducible first | refine nY ?_ | (refine mX ?_; try simp only [go_sem, qH]) | refine kD ?_ | refine rD ?_ | refine cP (kI s hs) ?_ | refine vR hk ?_ | refine vD hk ?_ | refine vR (bG s hs) ?_ | refine vD (bG s hs) ?_ | refine aO ?_ | fail)
  exact aA ⟨⟨_, rfl, by simp only [go_sem, sN, e]; try simp⟩, by simp [aH]⟩
 rcases ixF_cases f.fID s.fFiles with ei | ⟨p, ei, hp, _⟩
 ·have e : iX s f = false := by simp [iX, ei]
  have hy : (-1 : Int) < 0 := by omega
  rw [ei] at hk
  have qH := aI @hv (aI @hy @decide_true); repeat' (with_reducible first | refine nY ?_ | (refine mX ?_; try simp only [go_sem, qH]) | refine kD ?_ | refine rD ?_ | refine cP (kI s hs) ?_ | refine vR hk ?_ | refine vD hk ?_ | refine vR (bG s hs) ?_ | refine vD (bG s hs) ?_ | refine aO ?_ | fail)
  exact aA ⟨⟨_, rfl, by simp only [go_sem, sN, e]; try simp⟩, by simp [aH]⟩
 have hy : ¬ (p : Int) < 0 := by omega
 rw [ei] at hk
 cases ho : eB s.fSchema f
 ·have e : iX s f = false := by simp [iX, ho]
  have qH := aI @hv (aI @hy (aI @ho @decide_false)); repeat' (with_reducible first | refine nY ?_ | (refine mX ?_; try simp only [go_sem, qH]) | refine kD ?_ | refine rD ?_ | refine cP (kI s hs) ?_ | refine vR hk ?_ | refine vD hk ?_ | refine vR (bG s hs) ?_ | refine vD (bG s hs) ?_ | refine vR (eZ s.fSchema f h1 hf) ?_ | refine vD (eZ s.fSchema f h1 hf) ?_ | refine aO ?_ | fail)
  exact aA ⟨⟨_, rfl, by simp only [go_sem, sN, e]; try simp⟩, by simp [aH]⟩
 ·have e : iX s f = true := by simp [iX, hv, ei, ho]
  have qH := aI @hv (aI @hy (aI @ho (aI @hp (aI @decide_false (aI @Int.toNat_natCast @a5J))))); repeat' (with_reducible first | refine nY ?_ | (refine mX ?_; try simp only [go_sem, qH]) | refine kD ?_ | (apply rE [4,6] [] [0,1,2,3] [0,1,2,3] ((.c 4 [5] [0,1,2,5] (.c 6 [] [] .n .n) .n)) (by simp only [go_sem]; rfl) (by simp only [go_sem]; rfl) (by simp only [go_sem]; rfl) (by decide +kernel); (focus simp only [go_sem]; done)) | exact dW | refine cO (uX ?_) ?_ | refine cZ (aX ?_) ?_ | refine dA (aX ?_) ?_ | exact cK | exact oH | exact uB | refine rD ?_ | refine cP (kI s hs) ?_ | refine vR hk ?_ | refine vG hk ?_ | refine vR (bG s hs) ?_ | refine vG (bG s hs) ?_ | refine vR (eZ s.fSchema f h1 hf) ?_ | refine vG (eZ s.fSchema f h1 hf) ?_ | refine cP (oP f h3) ?_ | refine aO ?_ | fail)
  exact aA ⟨⟨_, rfl, by simp only [go_sem, sN, e, ei, Int.toNat_natCast, if_true, List.map_set]; try simp [bN]⟩, by simp [aH]⟩
end Go.Proofs.YteaaopodnbjpoaaGreat
end
section
set_option maxRecDepth 100000
set_option maxHeartbeats 4000000
namespace Go.Proofs.YteaaopodnbjpoaaGreat
open Go Go.Sx Go.RowKit Go.Proofs
theorem qR (s : TStore) (id : Int) (hs : aM s ≤ 4300000) : FnC Tryz.prog 181 [dH s, oi id] (.t [(true, (vZ (wP s id)).cells), (false, [.d (bv (kY s id))])]) := by
 have h2 : s.fFiles.length ≤ 4300000 := by unfold aM dC at hs; omega
 have hk := xK s id h2
 refine ent Tryz.func181 rfl Tryz.call181 rfl (fun C => ?_); simp only [go_sem, st0, Tryz.ntmps181]
 cases hv : bP s
 ·have e : kY s id = false := by simp [kY, hv]
  have q0 := @hv; refine a0N (fF s hs) hk (dX s hs) ?_
  exact aA ⟨⟨_, rfl, by simp only [go_sem, wP, e]; try simp⟩, by simp [aH]⟩
 rcases ixF_cases id s.fFiles with ei | ⟨p, ei, hp, _⟩
 ·have e : kY s id = false := by simp [kY, ei]
  have hy : (-1 : Int) < 0 := by omega
  rw [ei] at hk
  have q0 := @hv; have q1 := @hy; have q2 := @decide_true; refine a8S (fF s hs) hk (dX s hs) ?_
  exact aA ⟨⟨_, rfl, by simp only [go_sem, wP, e]; try simp⟩, by simp [aH]⟩
 ·have hy : ¬ (p : Int) < 0 := by omega
  rw [ei] at hk
  have e : kY s id = true := by simp [kY, hv, ei]
  have hp' : p < (s.fFiles.map bN).length := by simpa using hp
  have qH := aI @hv (aI @hy (aI @hp (aI @decide_false (aI @Int.toNat_natCast @a5J)))); repeat' (with_reducible first | refine nY ?_ | (refine mX ?_; try simp only [go_sem, qH]) | refine kD ?_ | refine rD ?_ | refine cP (fF s hs) ?_ | refine cP hk ?_ | refine cP (dX s hs) ?_ | refine vI (a1K s.fFiles p hp (by omega)) ?_ | refine vJ (a1K s.fFiles p hp (by omega)) ?_ | refine aO ?_ | fail)
  exact aA ⟨⟨_, rfl, by simp only [go_sem, wP, e, ei, Int.toNat_natCast, if_true]; try simp⟩, by simp [aH]⟩
theorem b0F (l : List TFile) : ∀ r ∈ l.map bN, r.length = 5 := by intro r hr; obtain ⟨x, _, rfl⟩ := List.mem_map.1 hr; rfl
theorem qU (s : TStore) (id : Int) (hs : aM s ≤ 4300000) : FnC Tryz.prog 158 [dH s, oi id] (.t [(true, (dH (wP s id)).cells), (false, [.d (bv (kY s id))])]) := by
 have h2 : s.fFiles.length ≤ 4300000 := by unfold aM dC at hs; omega
 have hk := pW s id h2
 have hcp : FnC Tryz.prog 77 [dH s] (dH s) := (kI s hs).pu (by simp only [go_sem, and_self])
 refine ent Tryz.func158 rfl Tryz.call158 rfl (fun C => ?_); simp only [go_sem, st0, Tryz.ntmps158]
 cases hv : bP s
 ·have e : kY s id = false := by simp [kY, hv]
  have q0 := @hv; refine a0N hcp hk (bG s hs) ?_
  exact aA ⟨⟨_, rfl, by simp only [go_sem, wP, e]; try simp⟩, by simp [aH]⟩
 rcases ixF_cases id s.fFiles with ei | ⟨p, ei, hp, _⟩
 ·have e : kY s id = false := by simp [kY, ei]
  have hy : (-1 : Int) < 0 := by omega
  rw [ei] at hk
  have q0 := @hv; have q1 := @hy; have q2 := @decide_true; refine a8S hcp hk (bG s hs) ?_
  exact aA ⟨⟨_, rfl, by simp only [go_sem, wP, e]; try simp⟩, by simp [aH]⟩
 ·have hy : ¬ (p : Int) < 0 := by omega
  rw [ei] at hk
  have e : kY s id = true := by simp [kY, hv, ei]
  have hpn : ((p : Int) + 1).toNat = p + 1 := by omega
  have hT : List.take s.fFiles.length (List.map bN s.fFiles) = List.map bN s.fFiles := List.take_of_length_le (by simp)
  have hTk : List.take p (List.map bN s.fFiles) = (s.fFiles.take p).map bN := List.map_take.symm
  have hDp : List.drop (p + 1) (List.map bN s.fFiles) = (s.fFiles.drop (p + 1)).map bN := List.map_drop.symm
  have qH := aI @hv (aI @hy (aI @hp (aI @hpn (aI @hT (aI @hTk (aI @hDp (aI @a2M (aI @a2N (aI @a2O (aI @decide_false (aI @Int.toNat_natCast @a5J))))))))))); repeat' (with_reducible first | refine nY ?_ | (refine mX ?_; try simp only [go_sem, qH]) | refine kD ?_ | (apply rE [0,5,11,13] [] [1,2,3,4,6,7,8,9,10] [1,2,3,4,6,7,8,9,10] ((.c 0 [] [1,2,3,4,6,7,8,9,10] (.c 5 [] [6,7,8,9,10] (.c 11 [12] [12] (.c 13 [] [] .n .n) .n) .n) .n)) (by simp only [go_sem]; rfl) (by simp only [go_sem]; rfl) (by simp only [go_sem]; rfl) (by decide +kernel); (focus simp only [go_sem]; done)) | exact dW | refine cO (uX ?_) ?_ | refine cZ (aX ?_) ?_ | refine dA (aX ?_) ?_ | exact cK | exact oH | (refine uA ?_; simp only [go_sem, qH]; (repeat' first | omega | exact b0F _ | refine And.intro ?_ ?_); done) | refine rD ?_ | refine And.intro (b0F _) ?_ | refine cP hcp ?_ | refine cP hk ?_ | refine cP (bG s hs) ?_ | refine aO ?_ | fail)
  first | refine aC (Sees.frz 4 rfl) ?_ | refine aC (Sees.frz 3 rfl) ?_ | refine aC (Sees.frz 2 rfl) ?_
  simp only [go_sem]
  exact aA ⟨⟨_, rfl, by simp only [go_sem, wP, e, ei, Int.toNat_natCast, if_true, fA, List.map_append]; try simp⟩, by simp [aH]⟩
noncomputable def sQ (c : TCatalog) (id : Int) : Bool := mG c && kY c.fStore id
noncomputable def a1j (c : TCatalog) (id : Int) : TCatalog := goC (sQ c id) c (wP c.fStore id) c.fDirs (dirNs c.fDirs)
noncomputable def a1k (c : TCatalog) (id : Int) : List TDiff := goD (sQ c id) c (wP c.fStore id) c.fDirs (dirNs c.fDirs)
theorem a4n (c : TCatalog) (id : Int) (h : wCatalog c ≤ 4300000) : FnC Tryz.prog 107 [bJ c, oi id] (.t [(true, (kH (a1j c id)).cells), (false, [.w 100 3 ((a1k c id).map fB)]), (false, [.d (bv (sQ c id))])]) := by
 have hc : wCatalog c = aM c.fStore + aU c.fDirs + aJ c.fResults := rfl
 have hw := b3K c.fStore id
 have hl : c.fDirs.length ≤ 4300000 := by unfold aU at hc; omega
 have hn : (dirNs c.fDirs).length ≤ 4300000 := by rw [kV]; exact hl
 refine ent Tryz.func107 rfl Tryz.call107 rfl (fun C => ?_); simp only [go_sem, st0, Tryz.ntmps107]
 cases h2 : kY c.fStore id
 ·have e : sQ c id = false := by simp [sQ, h2]
  have q0 := @h2; refine a0N (qR c.fStore id (by omega)) (bL c (by omega)) (eT c (by omega)) ?_
  exact aA ⟨⟨_, rfl, by simp only [go_sem, a1j, a1k, e, iL, iM, List.map_nil]; try simp⟩, by simp [aH]⟩
 cases h1 : mG c
 ·have e : sQ c id = false := by simp [sQ, h1]
  have q0 := @h1; have q1 := @h2; refine a7j (qR c.fStore id (by omega)) (bL c (by omega)) (eT c (by omega)) ?_
  exact aA ⟨⟨_, rfl, by simp only [go_sem, a1j, a1k, e, iL, iM, List.map_nil]; try simp⟩, by simp [aH]⟩
 ·have e : sQ c id = true := by simp [sQ, h1, h2]
  have hev : evB (wP c.fStore id) c.fDirs = true := by unfold evB; rw [b2R h1, b6z h2]; rfl
  have hk := a2i c (wP c.fStore id) c.fDirs (dirNs c.fDirs) hev (by omega) (by omega) (by omega) hn
  have qH := aI @h1 @h2; repeat' (with_reducible first | refine nY ?_ | (refine mX ?_; try simp only [go_sem, qH]) | refine kD ?_ | (apply rE [6,7,11] [] [0,1,2,3,4,5] [0,1,2,3,4,5] ((.c 6 [] [0,1,2,3] (.c 7 [8,9,10] [8,9,10] (.c 11 [12,13] [12,13] .n .n) .n) .n)) (by simp only [go_sem]; rfl) (by simp only [go_sem]; rfl) (by simp only [go_sem]; rfl) (by decide +kernel); (focus simp only [go_sem]; done)) | exact dW | refine cO (uX ?_) ?_ | refine cZ (aX ?_) ?_ | refine dA (aX ?_) ?_ | exact cK | exact oH | exact uB | refine rD ?_ | refine cP (qR c.fStore id (by omega)) ?_ | refine cP (bL c (by omega)) ?_ | refine cP (a0a c.fDirs hl) ?_ | refine cP hk ?_ | refine aO ?_ | fail)
  exact aA ⟨⟨_, rfl, by simp only [go_sem, a1j, a1k, e]; try simp⟩, by simp [aH]⟩
theorem a4o (c : TCatalog) (id : Int) (h : wCatalog c ≤ 4300000) : FnC Tryz.prog 87 [bJ c, oi id] (.t [(true, (bJ (a1j c id)).cells), (false, [.d (.sl ((a1k c id).map fB))]), (false, [.d (bv (sQ c id))])]) := by
 have hc : wCatalog c = aM c.fStore + aU c.fDirs + aJ c.fResults := rfl
 have hw := b3K c.fStore id
 have hl : c.fDirs.length ≤ 4300000 := by unfold aU at hc; omega
 have hn : (dirNs c.fDirs).length ≤ 4300000 := by rw [kV]; exact hl
 refine ent Tryz.func87 rfl Tryz.call87 rfl (fun C => ?_); simp only [go_sem, st0, Tryz.ntmps87]
 cases h1 : mG c
 ·have e : sQ c id = false := by simp [sQ, h1]
  have q0 := @h1; refine a0N (bM c (by omega)) (qU c.fStore id (by omega)) (bE c (by omega)) ?_
  first | refine aC (Sees.frz 1 rfl) ?_ | refine aC (Sees.frz 2 rfl) ?_ | refine aC (Sees.frz 3 rfl) ?_ | refine aC (Sees.frz 4 rfl) ?_ | refine aC (Sees.frz 5 rfl) ?_
  simp only [go_sem]
  exact aA ⟨⟨_, rfl, by simp only [go_sem, a1j, a1k, e, iL, iM, List.map_nil]; try simp⟩, by simp [aH]⟩
 cases h2 : kY c.fStore id
 ·have e : sQ c id = false := by simp [sQ, h2]
  have q0 := @h1; have q1 := @h2; refine a7j (bM c (by omega)) (qU c.fStore id (by omega)) (bE c (by omega)) ?_
  first | refine aC (Sees.frz 1 rfl) ?_ | refine aC (Sees.frz 2 rfl) ?_ | refine aC (Sees.frz 3 rfl) ?_ | refine aC (Sees.frz 4 rfl) ?_ | refine aC (Sees.frz 5 rfl) ?_
  simp only [go_sem]
  exact aA ⟨⟨_, rfl, by simp only [go_sem, a1j, a1k, e, iL, iM, List.map_nil]; try simp⟩, by simp [aH]⟩
 ·have e : sQ c id = true := by simp [sQ, h1, h2]
  have qH := aI @h1 @h2; repeat' (with_reducible first | refine nY ?_ | (refine mX ?_; try simp only [go_sem, qH]) | refine kD ?_ | (apply rE [6,7,11,12] [] [0,1,2,3,4,5] [0,1,2,3,4,5] ((.c 6 [] [0,1,2,3] (.c 7 [8,9,10] [8,9,10] (.c 11 [] [8,9,10] (.c 12 [13] [10,13] .n .n) .n) (.c 11 [] [0,1,2,3] (.c 7 [8,9,10] [8,9,10] (.c 12 [13] [10,13] .n .n) .n) .n)) (.c 11 [] [0,1,2,3,4,5] (.c 6 [] [0,1,2,3] (.c 7 [8,9,10] [8,9,10] (.c 12 [13] [10,13] .n .n) .n) .n) .n))) (by simp only [go_sem]; rfl) (by simp only [go_sem]; rfl) (by simp only [go_sem]; rfl) (by decide +kernel); (focus simp only [go_sem]; done)) | exact dW | refine cO (uX ?_) ?_ | refine cZ (aX ?_) ?_ | refine dA (aX ?_) ?_ | exact cK | exact oH | exact uB | refine rD ?_ | refine cP (bM c (by omega)) ?_ | refine cP (qU c.fStore id (by omega)) ?_ | refine cP (bE c (by omega)) ?_ | refine cP (rM c.fDirs hl) ?_ | refine cP (lG c (wP c.fStore id) c.fDirs (dirNs c.fDirs) (by omega) (by omega) (by omega) hn) ?_ | refine aO ?_ | fail)
  exact aA ⟨⟨_, rfl, by simp only [go_sem, a1j, a1k, e, a2g, a2h]; try simp⟩, by simp [aH]⟩
end Go.Proofs.YteaaopodnbjpoaaGreat
end
section
set_option maxRecDepth 100000
set_option maxHeartbeats 4000000
namespace Go.Proofs.YteaaopodnbjpoaaGreat
open Go Go.Sx Go.RowKit Go.Proofs
theorem a8m (l : List TDir) (a b : TFile) (h : aU l + (wFile a + wFile b) ≤ 4300000) : FnC Tryz.prog 180 [.o (.d (.sl (l.map aL))), dB a, dB b] (.o (.d (.sl ((a6x a b l).map bU)))) := (a9B l a b h).pu (by simp only [go_sem, and_self])
theorem a8n (l : List TDir) (a b : TFile) (h : aU l + (wFile a + wFile b) ≤ 4300000) : FnC Tryz.prog 157 [.o (.d (.sl (l.map aL))), dB a, dB b] (.o (.d (.sl ((a6x a b l).map bU)))) := (a9C l a b h).pu (by simp only [go_sem, and_self])
theorem a8o (a b : TFile) (l : List TDir) : (a6x a b l).length ≤ aU l := by have := b6D a b l; unfold oK at this; omega
theorem nK (s : TStore) (f : TFile) (hs : aM s ≤ 4300000) (hf : wFile f ≤ 4300000) : FnC Tryz.prog 137 [dH s, dB f] (.t [(true, (dH (sN s f)).cells), (false, [.d (bv (iX s f))])]) := (a3S s f hs hf).pu (by simp only [go_sem, and_self])
theorem eY (s : TStore) (id : Int) (h : aM s ≤ 4300000) : FnC Tryz.prog 84 [dH s, oi id] (.t [(true, (dB (iI id s.fFiles)).cells), (false, [.d (bv (decide (0 ≤ ixF id s.fFiles)))])]) := (a8l s id h).pu (by simp only [go_sem, and_self])
theorem iD (s : TStore) (id : Int) (h : aM s ≤ 4300000) : FnC Tryz.prog 104 [dH s, oi id] (.t [(true, (dB (iI id s.fFiles)).cells), (false, [.d (bv (decide (0 ≤ ixF id s.fFiles)))])]) := (a8k s id h).pu (by simp only [go_sem, and_self])
noncomputable def sS (c : TCatalog) (f : TFile) : Bool := mG c && iX c.fStore f
def a1X (c : TCatalog) (f : TFile) : List ByteArray := a6x (iI f.fID c.fStore.fFiles) f c.fDirs
noncomputable def a1l (c : TCatalog) (f : TFile) : TCatalog := goC (sS c f) c (sN c.fStore f) c.fDirs (a1X c f)
noncomputable def a1m (c : TCatalog) (f : TFile) : List TDiff := goD (sS c f) c (sN c.fStore f) c.fDirs (a1X c f)
theorem a4p (c : TCatalog) (f : TFile) (h : wCatalog c + wFile f ≤ 4300000) : FnC Tryz.prog 106 [bJ c, dB f] (.t [(true, (kH (a1l c f)).cells), (false, [.w 100 3 ((a1m c f).map fB)]), (false, [.d (bv (sS c f))])]) := by
 have hc : wCatalog c = aM c.fStore + aU c.fDirs + aJ c.fResults := rfl
 have hs : aM c.fStore = aT c.fStore.fSchema + dC c.fStore.fFiles := rfl
 have hw := b3L c.fStore f
 have hn : (a1X c f).length ≤ 4300000 := by have := a8o (iI f.fID c.fStore.fFiles) f c.fDirs; unfold a1X; omega
 have hfw := b0z f.fID c.fStore.fFiles
 refine ent Tryz.func106 rfl Tryz.call106 rfl (fun C => ?_); simp only [go_sem, st0, Tryz.ntmps106]
 cases h2 : iX c.fStore f
 ·have e : sS c f = false := by simp [sS, h2]
  have q0 := @h2; refine a0N (pF c.fStore f (by omega) (by omega)) (bL c (by omega)) (eT c (by omega)) ?_
  exact aA ⟨⟨_, rfl, by simp only [go_sem, a1l, a1m, e, iL, iM, List.map_nil]; try simp⟩, by simp [aH]⟩
 cases h1 : mG c
 ·have e : sS c f = false := by simp [sS, h1]
  have q0 := @h1; have q1 := @h2; refine a7j (pF c.fStore f (by omega) (by omega)) (bL c (by omega)) (eT c (by omega)) ?_
  exact aA ⟨⟨_, rfl, by simp only [go_sem, a1l, a1m, e, iL, iM, List.map_nil]; try simp⟩, by simp [aH]⟩
 ·have e : sS c f = true := by simp [sS, h1, h2]
  have hev : evB (sN c.fStore f) c.fDirs = true := by unfold evB; rw [b2R h1, b6A h2]; rfl
  have hk := a2i c (sN c.fStore f) c.fDirs (a1X c f) hev (by omega) (by omega) (by omega) hn
  have ha := a8m c.fDirs (iI f.fID c.fStore.fFiles) f (by omega)
  unfold a1X at hk
  have qH := aI @h1 @h2; repeat' (with_reducible first | refine nY ?_ | (refine mX ?_; try simp only [go_sem, qH]) | refine kD ?_ | (apply rE [8,9,13] [] [0,1,2,3,4,5,6,7] [0,1,2,3,4,5,6,7] ((.c 8 [] [0,1,2,3] (.c 9 [10,11,12] [10,11,12] (.c 13 [14,15] [14,15] .n .n) .n) .n)) (by simp only [go_sem]; rfl) (by simp only [go_sem]; rfl) (by simp only [go_sem]; rfl) (by decide +kernel); (focus simp only [go_sem]; done)) | exact dW | refine cO (uX ?_) ?_ | refine cZ (aX ?_) ?_ | refine dA (aX ?_) ?_ | exact cK | exact oH | exact uB | refine rD ?_ | refine cP (pF c.fStore f (by omega) (by omega)) ?_ | refine cP (bL c (by omega)) ?_ | refine cP (iD c.fStore f.fID (by omega)) ?_ | refine cP ha ?_ | refine cP hk ?_ | refine aO ?_ | fail)
  exact aA ⟨⟨_, rfl, by simp only [go_sem, a1l, a1m, a1X, e]; try simp⟩, by simp [aH]⟩
theorem a4q (c : TCatalog) (f : TFile) (h : wCatalog c + wFile f ≤ 4300000) : FnC Tryz.prog 85 [bJ c, dB f] (.t [(true, (bJ (a1l c f)).cells), (false, [.d (.sl ((a1m c f).map fB))]), (false, [.d (bv (sS c f))])]) := by
 have hc : wCatalog c = aM c.fStore + aU c.fDirs + aJ c.fResults := rfl
 have hs : aM c.fStore = aT c.fStore.fSchema + dC c.fStore.fFiles := rfl
 have hw := b3L c.fStore f
 have hn : (a1X c f).length ≤ 4300000 := by have := a8o (iI f.fID c.fStore.fFiles) f c.fDirs; unfold a1X; omega
 have hfw := b0z f.fID c.fStore.fFiles
 refine ent Tryz.func85 rfl Tryz.call85 rfl (fun C => ?_); simp only [go_sem, st0, Tryz.ntmps85]
 cases h1 : mG c
 ·have e : sS c f = false := by simp [sS, h1]
  have q0 := @h1; refine b6d (bM c (by omega)) (eY c.fStore f.fID (by omega)) (nK c.fStore f (by omega) (by omega)) (bE c (by omega)) ?_
  first | refine aC (Sees.frz 1 rfl) ?_ | refine aC (Sees.frz 2 rfl) ?_ | refine aC (Sees.frz 3 rfl) ?_ | refine aC (Sees.frz 4 rfl) ?_ | refine aC (Sees.frz 5 rfl) ?_
  simp only [go_sem]
  exact aA ⟨⟨_, rfl, by simp only [go_sem, a1l, a1m, e, iL, iM, List.map_nil]; try simp⟩, by simp [aH]⟩
 cases h2 : iX c.fStore f
 ·have e : sS c f = false := by simp [sS, h2]
  have q0 := @h1; have q1 := @h2; refine b2N (bM c (by omega)) (eY c.fStore f.fID (by omega)) (nK c.fStore f (by omega) (by omega)) (bE c (by omega)) ?_
  first | refine aC (Sees.frz 1 rfl) ?_ | refine aC (Sees.frz 2 rfl) ?_ | refine aC (Sees.frz 3 rfl) ?_ | refine aC (Sees.frz 4 rfl) ?_ | refine aC (Sees.frz 5 rfl) ?_
  simp only [go_sem]
  exact aA ⟨⟨_, rfl, by simp only [go_sem, a1l, a1m, e, iL, iM, List.map_nil]; try simp⟩, by simp [aH]⟩
 ·have e : sS c f = true := by simp [sS, h1, h2]
  have ha := a8n c.fDirs (iI f.fID c.fStore.fFiles) f (by omega)
  have hk := lG c (sN c.fStore f) c.fDirs (a1X c f) (by omega) (by omega) (by omega) hn
  unfold a1X at hk
  have qH := aI @h1 @h2; repeat' (with_reducible first | refine nY ?_ | (refine mX ?_; try simp only [go_sem, qH]) | refine kD ?_ | (apply rE [8,9,13,14] [] [0,1,2,3,4,5,6,7] [0,1,2,3,4,5,6,7] ((.c 8 [] [0,1,2,3] (.c 9 [10,11,12] [10,11,12] (.c 13 [] [10,11,12] (.c 14 [15] [12,15] .n .n) .n) (.c 13 [] [0,1,2,3] (.c 9 [10,11,12] [10,11,12] (.c 14 [15] [12,15] .n .n) .n) .n)) (.c 13 [] [0,1,2,3,4,5,6,7] (.c 8 [] [0,1,2,3] (.c 9 [10,11,12] [10,11,12] (.c 14 [15] [12,15] .n .n) .n) .n) .n))) (by simp only [go_sem]; rfl) (by simp only [go_sem]; rfl) (by simp only [go_sem]; rfl) (by decide +kernel); (focus simp only [go_sem]; done)) | exact dW | refine cO (uX ?_) ?_ | refine cZ (aX ?_) ?_ | refine dA (aX ?_) ?_ | exact cK | exact oH | exact uB | refine rD ?_ | refine cP (bM c (by omega)) ?_ | refine cP (eY c.fStore f.fID (by omega)) ?_ | refine cP (nK c.fStore f (by omega) (by omega)) ?_ | refine cP (bE c (by omega)) ?_ | refine cP ha ?_ | refine cP hk ?_ | refine aO ?_ | fail)
  exact aA ⟨⟨_, rfl, by simp only [go_sem, a1l, a1m, a1X, e, a2g, a2h]; try simp⟩, by simp [aH]⟩
end Go.Proofs.YteaaopodnbjpoaaGreat
end
section
namespace Go.Proofs.YteaaopodnbjpoaaGreat
open Go Go.Sx Go.RowKit Go.Proofs Go.Lib
end Go.Proofs.YteaaopodnbjpoaaGreat
end
section
set_option maxRecDepth 100000
namespace Go.Proofs.YteaaopodnbjpoaaGreat
open Go Go.Sx Go.RowKit Go.Proofs
end Go.Proofs.YteaaopodnbjpoaaGreat
end
section
set_option maxRecDepth 100000
set_option maxHeartbeats 4000000
namespace Go.Proofs.YteaaopodnbjpoaaGreat
open Go Go.Sx Go.RowKit Go.Proofs
def b6N (s : ByteArray) (y : TAttr) : Bool := !fP y.fName s
def b6O (a : List TAttr) (x : TAttr) : Bool := a.any fun y => decide (y.fName = x.fName) && !a4R y.fValue x.fValue
def b6P (a : List TAttr) (x : TAttr) : Bool := a.any fun y => decide (y.fName = x.fName)
def a9N (a : List TAttr) : List TAttr → List TAttr → Option (List TAttr)
 | l, [] => some l
 | l, x :: b => if b6O a x then none else if b6P a x then a9N a l b else a9N a (insAt (fstIx (b6N x.fName) l) x l) b
def b8u (a b : TEdit) : TEdit := if a.fOK && b.fOK then (match a9N a.fSet a.fSet b.fSet with | none => ⟨false, []⟩ | some l => ⟨true, l⟩) else ⟨false, []⟩
end Go.Proofs.YteaaopodnbjpoaaGreat
end
section
namespace Go.Proofs.YteaaopodnbjpoaaGreat
open Go Go.Sx Go.RowKit Go.Proofs Go.Lib
end Go.Proofs.YteaaopodnbjpoaaGreat
end
section
set_option maxRecDepth 100000
set_option maxHeartbeats 4000000
namespace Go.Proofs.YteaaopodnbjpoaaGreat
open Go Go.Sx Go.RowKit Go.Proofs
end Go.Proofs.YteaaopodnbjpoaaGreat
end
section
set_option maxRecDepth 100000
set_option maxHeartbeats 4000000
namespace Go.Proofs.YteaaopodnbjpoaaGreat
open Go Go.Sx Go.RowKit Go.Proofs
def b6K (s : ByteArray) (y : TAttr) : Bool := decide (y.fName = s)
def b6L (s : ByteArray) (y : TAttr) : Bool := !(fP y.fName s || decide (y.fName = s))
def b6M (s : ByteArray) (l : List TAttr) : List TAttr := l.filter fun y => !b6K s y
def b7C (s : ByteArray) (v : TValue) (l : List TAttr) : List TAttr := if v.fKind = 0 then b6M s l else insAt (fstIx (b6L s) (b6M s l)) ⟨s, v⟩ (b6M s l)
def b8J (f : TFile) (s : ByteArray) (v : TValue) : TFile := { f with fAttrs := b7C s v f.fAttrs }
end Go.Proofs.YteaaopodnbjpoaaGreat
end
section
set_option maxRecDepth 100000
set_option maxHeartbeats 4000000
namespace Go.Proofs.YteaaopodnbjpoaaGreat
open Go Go.Sx Go.RowKit Go.Proofs
end Go.Proofs.YteaaopodnbjpoaaGreat
end
section
set_option maxRecDepth 100000
set_option maxHeartbeats 4000000
namespace Go.Proofs.YteaaopodnbjpoaaGreat
open Go Go.Sx Go.RowKit Go.Proofs
def b6J (l : List TAttr) (e : List TAttr) : List TAttr := e.foldl (fun l a => b7C a.fName a.fValue l) l
def b8t (f : TFile) (e : TEdit) : TFile := { f with fAttrs := b6J f.fAttrs e.fSet }
end Go.Proofs.YteaaopodnbjpoaaGreat
end
section
set_option maxRecDepth 100000
set_option maxHeartbeats 4000000
namespace Go.Proofs.YteaaopodnbjpoaaGreat
open Go Go.Sx Go.RowKit Go.Proofs
def a6C (f : TFile) (u : Int) : Bool := inB u 0 2 && decide (f.fOwner = u)
def b8I (f : TFile) (u : Int) : Bool := inB u 0 2 && (decide (f.fOwner = u) || f.fShared)
theorem nE (f : TFile) (u : Int) : FnC Tryz.prog 105 [dB f, oi u] (ob (a6C f u)) := by
 refine ent Tryz.func105 rfl Tryz.call105 rfl (fun C => ?_); simp only [go_sem, st0, Tryz.ntmps105]
 cases h : inB u 0 2
 all_goals
  have q0 := @h; refine fC (dO u) ?_
  exact aA ⟨⟨_, rfl, by simp only [go_sem, a6C, h, Bool.true_and, Bool.false_and]⟩, trivial⟩
theorem pX (f : TFile) (u : Int) : FnC Tryz.prog 86 [dB f, oi u] (ob (a6C f u)) := by
 refine ent Tryz.func86 rfl Tryz.call86 rfl (fun C => ?_); simp only [go_sem, st0, Tryz.ntmps86]
 cases h : inB u 0 2
 all_goals
  have q0 := @h; refine fC (aY u 0 2) ?_
  exact aA ⟨⟨_, rfl, by simp only [go_sem, a6C, h, Bool.true_and, Bool.false_and]⟩, trivial⟩
end Go.Proofs.YteaaopodnbjpoaaGreat
end
section
set_option maxRecDepth 100000
set_option maxHeartbeats 4000000
namespace Go.Proofs.YteaaopodnbjpoaaGreat
open Go Go.Sx Go.RowKit Go.Proofs Go.Sx.Clos
noncomputable def vU (c : TCatalog) (s : ByteArray) : Bool := mG c && nJ c.fDirs s
noncomputable def a3W (c : TCatalog) (s : ByteArray) : TCatalog := goC (vU c s) c c.fStore (rmD c.fDirs s) (tdS c.fDirs [s])
noncomputable def a3X (c : TCatalog) (s : ByteArray) : List TDiff := goD (vU c s) c c.fStore (rmD c.fDirs s) (tdS c.fDirs [s])
noncomputable def lM (c : TCatalog) (u id : Int) : Bool := decide (0 ≤ ixF id c.fStore.fFiles) && a6C (iI id c.fStore.fFiles) u
noncomputable def kG (c : TCatalog) (u : Int) (o : TChange) : TCatalog × List TDiff × Bool :=
 if o.fKind = 1 then (if o.fFile.fOwner = u then (uN c o.fFile, uO c o.fFile, qP c o.fFile) else (c, [], false))
 else if o.fKind = 2 then (if o.fFile.fOwner = u then (if lM c u o.fFile.fID then (a1l c o.fFile, a1m c o.fFile, sS c o.fFile) else (c, [], false)) else (c, [], false))
 else if o.fKind = 3 then (if lM c u o.fID then (a1j c o.fID, a1k c o.fID, sQ c o.fID) else (c, [], false))
 else if o.fKind = 4 then (yM c o.fDir, yN c o.fDir, nM c o.fDir)
 else if o.fKind = 5 then (a3W c o.fDir.fName, a3X c o.fDir.fName, vU c o.fDir.fName)
 else (c, [], false)
noncomputable def fI (c : TCatalog) (u : Int) (o : TChange) : TCatalog × List TDiff × Bool := if inB u 0 2 && mG c then kG c u o else (c, [], false)
theorem b6h {c : TCatalog} {f : TFile} (h : qP c f = false) : uN c f = c ∧ uO c f = [] := by simp [uN, uO, h]
theorem b6i {c : TCatalog} {f : TFile} (h : sS c f = false) : a1l c f = c ∧ a1m c f = [] := by simp [a1l, a1m, h, iL, iM]
theorem b6j {c : TCatalog} {i : Int} (h : sQ c i = false) : a1j c i = c ∧ a1k c i = [] := by simp [a1j, a1k, h, iL, iM]
theorem b6k {c : TCatalog} {x : TDir} (h : nM c x = false) : yM c x = c ∧ yN c x = [] := by simp [yM, yN, h, iL, iM]
theorem b6l {c : TCatalog} {s : ByteArray} (h : vU c s = false) : a3W c s = c ∧ a3X c s = [] := by simp [a3W, a3X, h, iL, iM]
theorem b4J {c : TCatalog} {s : ByteArray} (h : vU c s = true) : evB c.fStore (rmD c.fDirs s) = true := by
 unfold vU at h
 rw [Bool.and_eq_true] at h
 unfold evB; rw [b6H (b2R h.1) h.2, b5v h.1]; rfl
theorem a2Q (d : List TDir) (s : ByteArray) (h : aU d ≤ 4200000) : FnC Tryz.prog 109 [.o (.d (.sl (d.map aL))), os s] (.t [(false, [.d (.sl ((rmD d s).map aL))]), (false, [.d (bv (nJ d s))])]) := (b2a d s h).pu (by simp only [go_sem, and_self])
theorem a2R (d : List TDir) (s : ByteArray) (h : aU d ≤ 4200000) : FnC Tryz.prog 162 [.o (.d (.sl (d.map aL))), os s] (.t [(false, [.d (.sl ((rmD d s).map aL))]), (false, [.d (bv (nJ d s))])]) := (b2c d s h).pu (by simp only [go_sem, and_self])
theorem a3Y (c : TCatalog) (s : ByteArray) (hcur : mG c = true) (h : wCatalog c + s.size ≤ 2000000) : FnC Tryz.prog 89 [bJ c, os s] (.t [(true, (bJ (a3W c s)).cells), (false, [.d (.sl ((a3X c s).map fB))]), (false, [.d (bv (vU c s))])]) := by
 have hc : wCatalog c = aM c.fStore + aU c.fDirs + aJ c.fResults := rfl
 have hw := b3U c.fDirs s
 have hp := zY c.fDirs s
 have hn : (tdS c.fDirs [s]).length ≤ 4300000 := by have := a2f c.fDirs s; omega
 refine ent Tryz.func89 rfl Tryz.call89 rfl (fun C => ?_); simp only [go_sem, st0, Tryz.ntmps89]
 cases h2 : nJ c.fDirs s
 ·have e : vU c s = false := by simp [vU, h2]
  have q0 := @h2; refine fC (a2R c.fDirs s (by omega)) ?_
  first | refine aC (Sees.frz 2 rfl) ?_ | refine aC (Sees.frz 1 rfl) ?_ | refine aC (Sees.frz 3 rfl) ?_
  simp only [go_sem]
  exact aA ⟨⟨_, rfl, by simp only [go_sem, a3W, a3X, e, iL, iM, List.map_nil]; try simp⟩, by simp [aH]⟩
 ·have e : vU c s = true := by simp [vU, h2, hcur]
  have ha := a2T c.fDirs [s] (by omega) (by omega)
  have hk := lG c c.fStore (rmD c.fDirs s) (tdS c.fDirs [s]) (by omega) (by omega) (by omega) hn
  have qH := @h2; repeat' (with_reducible first | refine nY ?_ | (refine mX ?_; try simp only [go_sem, qH]) | refine kD ?_ | (apply rE [7,8,9,13,14] [] [0,1,2,3,4,5,6] [0,1,2,3,4,5,6] ((.c 7 [] [0,1,2,3,4,5] (.c 8 [] [0,1,2,3] (.c 9 [10,11,12] [10,11,12] (.c 13 [] [10,11,12] (.c 14 [15] [12,15] .n .n) .n) (.c 13 [] [0,1,2,3] (.c 9 [10,11,12] [10,11,12] (.c 14 [15] [12,15] .n .n) .n) .n)) (.c 13 [] [0,1,2,3,4,5] (.c 8 [] [0,1,2,3] (.c 9 [10,11,12] [10,11,12] (.c 14 [15] [12,15] .n .n) .n) .n) .n)) (.c 13 [] [0,1,2,3,4,5,6] (.c 7 [] [0,1,2,3,4,5] (.c 8 [] [0,1,2,3] (.c 9 [10,11,12] [10,11,12] (.c 14 [15] [12,15] .n .n) .n) .n) .n) .n))) (by simp only [go_sem]; rfl) (by simp only [go_sem]; rfl) (by simp only [go_sem]; rfl) (by decide +kernel); (focus simp only [go_sem]; done)) | exact dW | refine cO (uX ?_) ?_ | refine cZ (aX ?_) ?_ | refine dA (aX ?_) ?_ | exact cK | (refine a2l [(2, 3)] (by simp only [go_sem]; rfl) ?_; exact rfl) | exact oH | exact uB | refine rD ?_ | refine cP (a2R c.fDirs s (by omega)) ?_ | refine cP ha ?_ | refine cP hk ?_ | refine aO ?_ | fail)
  exact aA ⟨⟨_, rfl, by simp only [go_sem, a3W, a3X, e, a2g, a2h]; try simp⟩, by simp [aH]⟩
end Go.Proofs.YteaaopodnbjpoaaGreat
end
section
set_option maxRecDepth 100000
set_option maxHeartbeats 4000000
namespace Go.Proofs.YteaaopodnbjpoaaGreat
open Go Go.Sx Go.RowKit Go.Proofs Go.Sx.Clos
theorem a5P (c : TCatalog) (u : Int) (o : TChange) (h : wCatalog c + wChange o ≤ 1900000) : FnC Tryz.prog 49 [bJ c, oi u, lI o] (.t [(true, (kH (fI c u o).1).cells), (false, [.w 100 3 ((fI c u o).2.1.map fB)]), (false, [.d (bv (fI c u o).2.2)])]) := by
 have hcw : wCatalog c = aM c.fStore + aU c.fDirs + aJ c.fResults := rfl
 have how : wChange o = wFile o.fFile + wDir o.fDir := rfl
 have hdw : wDir o.fDir = o.fDir.fName.size + bS o.fDir.fQuery := rfl
 have hsw : aM c.fStore = aT c.fStore.fSchema + dC c.fStore.fFiles := rfl
 refine ent Tryz.func49 rfl Tryz.call49 rfl (fun C => ?_); simp only [go_sem, st0, Tryz.ntmps49]
 cases hu : inB u 0 2
 ·have e : fI c u o = (c, [], false) := by simp [fI, hu]
  have q0 := @hu; refine a0N (dO u) (bL c (by omega)) (eT c (by omega)) ?_
  exact aA ⟨⟨_, rfl, by simp only [go_sem, e, List.map_nil]; try simp⟩, by simp [aH]⟩
 cases hc : mG c
 ·have e : fI c u o = (c, [], false) := by simp [fI, hc]
  have q0 := @hu; have q1 := @hc; refine a7j (dO u) (bL c (by omega)) (eT c (by omega)) ?_
  exact aA ⟨⟨_, rfl, by simp only [go_sem, e, List.map_nil]; try simp⟩, by simp [aH]⟩
 have e0 : fI c u o = kG c u o := by simp [fI, hu, hc]
 by_cases k1 : o.fKind = 1
 ·skip
  have g1 : decide (o.fKind = 1) = true := by simp [k1]
  have g2 : decide (o.fKind = 2) = false := by simp [k1]
  have g3 : decide (o.fKind = 3) = false := by simp [k1]
  have g4 : decide (o.fKind = 4) = false := by simp [k1]
  have g5 : decide (o.fKind = 5) = false := by simp [k1]
  by_cases ho : o.fFile.fOwner = u
  ·have vo : decide (o.fFile.fOwner = u) = true := by simp [ho]
   have e : fI c u o = (uN c o.fFile, uO c o.fFile, qP c o.fFile) := by rw [e0]; simp [kG, lM, k1, ho]
   have q0 := @hu; have q1 := @hc; have q2 := @g1; have q3 := @g2; have q4 := @g3; have q5 := @g4; have q6 := @g5; have q7 := @vo; refine b4H (dO u) (bL c (by omega)) (a9K c o.fFile (by omega)) ?_
   exact aA ⟨⟨_, rfl, by simp only [go_sem, e, List.map_nil]; try simp⟩, by simp [aH]⟩
  ·have vo : decide (o.fFile.fOwner = u) = false := by simp [ho]
   have e : fI c u o = (c, [], false) := by rw [e0]; simp [kG, lM, k1, ho]
   have q0 := @hu; have q1 := @hc; have q2 := @g1; have q3 := @g2; have q4 := @g3; have q5 := @g4; have q6 := @g5; have q7 := @vo; refine b4H (dO u) (bL c (by omega)) (eT c (by omega)) ?_
   exact aA ⟨⟨_, rfl, by simp only [go_sem, e, List.map_nil]; try simp⟩, by simp [aH]⟩
 by_cases k2 : o.fKind = 2
 ·skip
  have g1 : decide (o.fKind = 1) = false := by simp [k2]
  have g2 : decide (o.fKind = 2) = true := by simp [k2]
  have g3 : decide (o.fKind = 3) = false := by simp [k2]
  have g4 : decide (o.fKind = 4) = false := by simp [k2]
  have g5 : decide (o.fKind = 5) = false := by simp [k2]
  by_cases h1 : 0 ≤ ixF o.fFile.fID c.fStore.fFiles
  case neg =>
   have vi : decide (0 ≤ ixF o.fFile.fID c.fStore.fFiles) = false := by simp [h1]
   have e : fI c u o = (c, [], false) := by rw [e0]; simp [kG, lM, k2, h1]
   have q0 := @hu; have q1 := @hc; have q2 := @g1; have q3 := @g2; have q4 := @g3; have q5 := @g4; have q6 := @g5; have q7 := @vi; refine b2Q (dO u) (bL c (by omega)) (iD c.fStore o.fFile.fID (by omega)) (eT c (by omega)) ?_
   exact aA ⟨⟨_, rfl, by simp only [go_sem, e, List.map_nil]; try simp⟩, by simp [aH]⟩
  have vi : decide (0 ≤ ixF o.fFile.fID c.fStore.fFiles) = true := by simp [h1]
  cases h2 : a6C (iI o.fFile.fID c.fStore.fFiles) u
  ·skip
   have e : fI c u o = (c, [], false) := by rw [e0]; simp [kG, lM, k2, h1, h2]
   have q0 := @hu; have q1 := @hc; have q2 := @g1; have q3 := @g2; have q4 := @g3; have q5 := @g4; have q6 := @g5; have q7 := @vi; have q8 := @h2; refine b4I (dO u) (bL c (by omega)) (iD c.fStore o.fFile.fID (by omega)) (nE (iI o.fFile.fID c.fStore.fFiles) u) (eT c (by omega)) ?_
   exact aA ⟨⟨_, rfl, by simp only [go_sem, e, List.map_nil]; try simp⟩, by simp [aH]⟩
  by_cases ho : o.fFile.fOwner = u
  ·have vo : decide (o.fFile.fOwner = u) = true := by simp [ho]
   have e : fI c u o = (a1l c o.fFile, a1m c o.fFile, sS c o.fFile) := by rw [e0]; simp [kG, lM, k2, h1, h2, ho]
   have q0 := @hu; have q1 := @hc; have q2 := @g1; have q3 := @g2; have q4 := @g3; have q5 := @g4; have q6 := @g5; have q7 := @vi; have q8 := @h2; have q9 := @vo; refine b5t (dO u) (bL c (by omega)) (iD c.fStore o.fFile.fID (by omega)) (nE (iI o.fFile.fID c.fStore.fFiles) u) (a4p c o.fFile (by omega)) ?_
   exact aA ⟨⟨_, rfl, by simp only [go_sem, e, List.map_nil]; try simp⟩, by simp [aH]⟩
  ·have vo : decide (o.fFile.fOwner = u) = false := by simp [ho]
   have e : fI c u o = (c, [], false) := by rw [e0]; simp [kG, lM, k2, h1, h2, ho]
   have q0 := @hu; have q1 := @hc; have q2 := @g1; have q3 := @g2; have q4 := @g3; have q5 := @g4; have q6 := @g5; have q7 := @vi; have q8 := @h2; have q9 := @vo; refine b5t (dO u) (bL c (by omega)) (iD c.fStore o.fFile.fID (by omega)) (nE (iI o.fFile.fID c.fStore.fFiles) u) (eT c (by omega)) ?_
   exact aA ⟨⟨_, rfl, by simp only [go_sem, e, List.map_nil]; try simp⟩, by simp [aH]⟩
 by_cases k3 : o.fKind = 3
 ·skip
  have g1 : decide (o.fKind = 1) = false := by simp [k3]
  have g2 : decide (o.fKind = 2) = false := by simp [k3]
  have g3 : decide (o.fKind = 3) = true := by simp [k3]
  have g4 : decide (o.fKind = 4) = false := by simp [k3]
  have g5 : decide (o.fKind = 5) = false := by simp [k3]
  by_cases h1 : 0 ≤ ixF o.fID c.fStore.fFiles
  case neg =>
   have vi : decide (0 ≤ ixF o.fID c.fStore.fFiles) = false := by simp [h1]
   have e : fI c u o = (c, [], false) := by rw [e0]; simp [kG, lM, k3, h1]
   have q0 := @hu; have q1 := @hc; have q2 := @g1; have q3 := @g2; have q4 := @g3; have q5 := @g4; have q6 := @g5; have q7 := @vi; refine b2Q (dO u) (bL c (by omega)) (iD c.fStore o.fID (by omega)) (eT c (by omega)) ?_
   exact aA ⟨⟨_, rfl, by simp only [go_sem, e, List.map_nil]; try simp⟩, by simp [aH]⟩
  have vi : decide (0 ≤ ixF o.fID c.fStore.fFiles) = true := by simp [h1]
  cases h2 : a6C (iI o.fID c.fStore.fFiles) u
  ·skip
   have e : fI c u o = (c, [], false) := by rw [e0]; simp [kG, lM, k3, h1, h2]
   have q0 := @hu; have q1 := @hc; have q2 := @g1; have q3 := @g2; have q4 := @g3; have q5 := @g4; have q6 := @g5; have q7 := @vi; have q8 := @h2; refine b4I (dO u) (bL c (by omega)) (iD c.fStore o.fID (by omega)) (nE (iI o.fID c.fStore.fFiles) u) (eT c (by omega)) ?_
   exact aA ⟨⟨_, rfl, by simp only [go_sem, e, List.map_nil]; try simp⟩, by simp [aH]⟩
  ·skip
   have e : fI c u o = (a1j c o.fID, a1k c o.fID, sQ c o.fID) := by rw [e0]; simp [kG, lM, k3, h1, h2]
   have q0 := @hu; have q1 := @hc; have q2 := @g1; have q3 := @g2; have q4 := @g3; have q5 := @g4; have q6 := @g5; have q7 := @vi; have q8 := @h2; refine b4I (dO u) (bL c (by omega)) (iD c.fStore o.fID (by omega)) (nE (iI o.fID c.fStore.fFiles) u) (a4n c o.fID (by omega)) ?_
   exact aA ⟨⟨_, rfl, by simp only [go_sem, e, List.map_nil]; try simp⟩, by simp [aH]⟩
 by_cases k4 : o.fKind = 4
 ·skip
  have g1 : decide (o.fKind = 1) = false := by simp [k4]
  have g2 : decide (o.fKind = 2) = false := by simp [k4]
  have g3 : decide (o.fKind = 3) = false := by simp [k4]
  have g4 : decide (o.fKind = 4) = true := by simp [k4]
  have g5 : decide (o.fKind = 5) = false := by simp [k4]
  have e : fI c u o = (yM c o.fDir, yN c o.fDir, nM c o.fDir) := by rw [e0]; simp [kG, lM, k4]
  have q0 := @hu; have q1 := @hc; have q2 := @g1; have q3 := @g2; have q4 := @g3; have q5 := @g4; have q6 := @g5; refine b6g (dO u) (bL c (by omega)) (a3Z c o.fDir (by omega)) ?_
  exact aA ⟨⟨_, rfl, by simp only [go_sem, e, List.map_nil]; try simp⟩, by simp [aH]⟩
 by_cases k5 : o.fKind = 5
 ·skip
  have g1 : decide (o.fKind = 1) = false := by simp [k5]
  have g2 : decide (o.fKind = 2) = false := by simp [k5]
  have g3 : decide (o.fKind = 3) = false := by simp [k5]
  have g4 : decide (o.fKind = 4) = false := by simp [k5]
  have g5 : decide (o.fKind = 5) = true := by simp [k5]
  have hrw := b3U c.fDirs o.fDir.fName
  have hp := zY c.fDirs o.fDir.fName
  have hn : (tdS c.fDirs [o.fDir.fName]).length ≤ 4300000 := by have := a2f c.fDirs o.fDir.fName; omega
  have er : fI c u o = (a3W c o.fDir.fName, a3X c o.fDir.fName, vU c o.fDir.fName) := by rw [e0]; simp [kG, k5]
  cases hr : nJ c.fDirs o.fDir.fName
  ·have hf : vU c o.fDir.fName = false := by simp [vU, hr]
   have e : fI c u o = (c, [], false) := by rw [er]; simp only [a3W, a3X, hf, iL, iM]
   have q0 := @hu; have q1 := @hc; have q2 := @hr; have q3 := @g1; have q4 := @g2; have q5 := @g3; have q6 := @g4; have q7 := @g5; refine b2Q (dO u) (bL c (by omega)) (a2Q c.fDirs o.fDir.fName (by omega)) (eT c (by omega)) ?_
   exact aA ⟨⟨_, rfl, by simp only [go_sem, e, List.map_nil]; try simp⟩, by simp [aH]⟩
  ·have hf : vU c o.fDir.fName = true := by simp [vU, hr, hc]
   have e : fI c u o = (goC true c c.fStore (rmD c.fDirs o.fDir.fName) (tdS c.fDirs [o.fDir.fName]), goD true c c.fStore (rmD c.fDirs o.fDir.fName) (tdS c.fDirs [o.fDir.fName]), true) := by rw [er]; simp only [a3W, a3X, hf]
   have ha := a2S c.fDirs [o.fDir.fName] (by omega) (by omega)
   have hk := a2i c c.fStore (rmD c.fDirs o.fDir.fName) (tdS c.fDirs [o.fDir.fName]) (b4J hf) (by omega) (by omega) (by omega) hn
   have qH := aI @hu (aI @hc (aI @hr (aI @g1 (aI @g2 (aI @g3 (aI @g4 @g5)))))); repeat' (with_reducible first | refine nY ?_ | (refine mX ?_; try simp only [go_sem, qH]) | refine kD ?_ | (apply rE [9,10,11,15] [] [0,1,2,3,4,5,6,7,8] [0,1,2,3,4,5,6,7,8] ((.c 9 [] [0,1,2,3,4,5] (.c 10 [] [0,1,2,3] (.c 11 [12,13,14] [12,13,14] (.c 15 [16,17] [16,17] .n .n) .n) .n) .n)) (by simp only [go_sem]; rfl) (by simp only [go_sem]; rfl) (by simp only [go_sem]; rfl) (by decide +kernel); (focus simp only [go_sem]; done)) | exact dW | refine cO (uX ?_) ?_ | refine cZ (aX ?_) ?_ | refine dA (aX ?_) ?_ | exact cK | exact oH | exact uB | refine rD ?_ | refine cP (dO u) ?_ | refine cP (bL c (by omega)) ?_ | refine cP (a2Q c.fDirs o.fDir.fName (by omega)) ?_ | refine cP ha ?_ | refine cP hk ?_ | refine aO ?_ | fail)
   exact aA ⟨⟨_, rfl, by simp only [go_sem, e, List.map_nil]; try simp⟩, by simp [aH]⟩
 have g1 : decide (o.fKind = 1) = false := by simp [k1]
 have g2 : decide (o.fKind = 2) = false := by simp [k2]
 have g3 : decide (o.fKind = 3) = false := by simp [k3]
 have g4 : decide (o.fKind = 4) = false := by simp [k4]
 have g5 : decide (o.fKind = 5) = false := by simp [k5]
 have e : fI c u o = (c, [], false) := by rw [e0]; simp [kG, lM, k1, k2, k3, k4, k5]
 have q0 := @hu; have q1 := @hc; have q2 := @g1; have q3 := @g2; have q4 := @g3; have q5 := @g4; have q6 := @g5; refine b6g (dO u) (bL c (by omega)) (eT c (by omega)) ?_
 exact aA ⟨⟨_, rfl, by simp only [go_sem, e, List.map_nil]; try simp⟩, by simp [aH]⟩
theorem a5Q (c : TCatalog) (u : Int) (o : TChange) (h : wCatalog c + wChange o ≤ 1900000) : FnC Tryz.prog 41 [bJ c, oi u, lI o] (.t [(true, (bJ (fI c u o).1).cells), (false, [.d (.sl ((fI c u o).2.1.map fB))]), (false, [.d (bv (fI c u o).2.2)])]) := by
 have hcw : wCatalog c = aM c.fStore + aU c.fDirs + aJ c.fResults := rfl
 have how : wChange o = wFile o.fFile + wDir o.fDir := rfl
 have hdw : wDir o.fDir = o.fDir.fName.size + bS o.fDir.fQuery := rfl
 have hsw : aM c.fStore = aT c.fStore.fSchema + dC c.fStore.fFiles := rfl
 refine ent Tryz.func41 rfl Tryz.call41 rfl (fun C => ?_); simp only [go_sem, st0, Tryz.ntmps41]
 cases hc : mG c
 ·have e : fI c u o = (c, [], false) := by simp [fI, hc]
  have q0 := @hc; refine a0N (bM c (by omega)) (bE c (by omega)) (aY u 0 2) ?_
  first | refine aC (Sees.frz 9 rfl) ?_ | refine aC (Sees.frz 8 rfl) ?_ | refine aC (Sees.frz 7 rfl) ?_ | refine aC (Sees.frz 6 rfl) ?_ | refine aC (Sees.frz 5 rfl) ?_ | refine aC (Sees.frz 4 rfl) ?_
  simp only [go_sem]
  exact aA ⟨⟨_, rfl, by simp only [go_sem, e, List.map_nil]; try simp⟩, by simp [aH]⟩
 cases hu : inB u 0 2
 ·have e : fI c u o = (c, [], false) := by simp [fI, hu]
  have q0 := @hu; have q1 := @hc; refine a7j (bM c (by omega)) (bE c (by omega)) (aY u 0 2) ?_
  first | refine aC (Sees.frz 9 rfl) ?_ | refine aC (Sees.frz 8 rfl) ?_ | refine aC (Sees.frz 7 rfl) ?_ | refine aC (Sees.frz 6 rfl) ?_ | refine aC (Sees.frz 5 rfl) ?_ | refine aC (Sees.frz 4 rfl) ?_
  simp only [go_sem]
  exact aA ⟨⟨_, rfl, by simp only [go_sem, e, List.map_nil]; try simp⟩, by simp [aH]⟩
 have e0 : fI c u o = kG c u o := by simp [fI, hu, hc]
 by_cases k1 : o.fKind = 1
 ·skip
  have g1 : decide (o.fKind = 1) = true := by simp [k1]
  have g2 : decide (o.fKind = 2) = false := by simp [k1]
  have g3 : decide (o.fKind = 3) = false := by simp [k1]
  have g4 : decide (o.fKind = 4) = false := by simp [k1]
  have g5 : decide (o.fKind = 5) = false := by simp [k1]
  by_cases ho : o.fFile.fOwner = u
  ·have vo : decide (o.fFile.fOwner = u) = true := by simp [ho]
   have hk := a9L c o.fFile (by omega)
   cases hB : qP c o.fFile
   ·obtain ⟨n1, n2⟩ := b6h hB
    rw [hB, n1, n2] at hk
    have e : fI c u o = (c, [], false) := by rw [e0]; simp [kG, lM, k1, ho, hB, n1, n2]
    have q0 := @hu; have q1 := @hc; have q2 := @g1; have q3 := @g2; have q4 := @g3; have q5 := @g4; have q6 := @g5; have q7 := @vo; refine b2Q (bM c (by omega)) (bE c (by omega)) (aY u 0 2) hk ?_
    first | refine aC (Sees.frz 9 rfl) ?_ | refine aC (Sees.frz 8 rfl) ?_ | refine aC (Sees.frz 7 rfl) ?_ | refine aC (Sees.frz 6 rfl) ?_ | refine aC (Sees.frz 5 rfl) ?_ | refine aC (Sees.frz 4 rfl) ?_
    simp only [go_sem]
    exact aA ⟨⟨_, rfl, by simp only [go_sem, e, List.map_nil]; try simp⟩, by simp [aH]⟩
   ·rw [hB] at hk
    have e : fI c u o = (uN c o.fFile, uO c o.fFile, true) := by rw [e0]; simp [kG, lM, k1, ho, hB]
    have q0 := @hu; have q1 := @hc; have q2 := @g1; have q3 := @g2; have q4 := @g3; have q5 := @g4; have q6 := @g5; have q7 := @vo; refine b2Q (bM c (by omega)) (bE c (by omega)) (aY u 0 2) hk ?_
    exact aA ⟨⟨_, rfl, by simp only [go_sem, e, List.map_nil]; try simp⟩, by simp [aH]⟩
  ·have vo : decide (o.fFile.fOwner = u) = false := by simp [ho]
   have e : fI c u o = (c, [], false) := by rw [e0]; simp [kG, lM, k1, ho]
   have q0 := @hu; have q1 := @hc; have q2 := @g1; have q3 := @g2; have q4 := @g3; have q5 := @g4; have q6 := @g5; have q7 := @vo; refine b4H (bM c (by omega)) (bE c (by omega)) (aY u 0 2) ?_
   first | refine aC (Sees.frz 9 rfl) ?_ | refine aC (Sees.frz 8 rfl) ?_ | refine aC (Sees.frz 7 rfl) ?_ | refine aC (Sees.frz 6 rfl) ?_ | refine aC (Sees.frz 5 rfl) ?_ | refine aC (Sees.frz 4 rfl) ?_
   simp only [go_sem]
   exact aA ⟨⟨_, rfl, by simp only [go_sem, e, List.map_nil]; try simp⟩, by simp [aH]⟩
 by_cases k2 : o.fKind = 2
 ·skip
  have g1 : decide (o.fKind = 1) = false := by simp [k2]
  have g2 : decide (o.fKind = 2) = true := by simp [k2]
  have g3 : decide (o.fKind = 3) = false := by simp [k2]
  have g4 : decide (o.fKind = 4) = false := by simp [k2]
  have g5 : decide (o.fKind = 5) = false := by simp [k2]
  by_cases ho : o.fFile.fOwner = u
  case neg =>
   have vo : decide (o.fFile.fOwner = u) = false := by simp [ho]
   have e : fI c u o = (c, [], false) := by rw [e0]; simp [kG, lM, k2, ho]
   have q0 := @hu; have q1 := @hc; have q2 := @g1; have q3 := @g2; have q4 := @g3; have q5 := @g4; have q6 := @g5; have q7 := @vo; refine b4H (bM c (by omega)) (bE c (by omega)) (aY u 0 2) ?_
   first | refine aC (Sees.frz 9 rfl) ?_ | refine aC (Sees.frz 8 rfl) ?_ | refine aC (Sees.frz 7 rfl) ?_ | refine aC (Sees.frz 6 rfl) ?_ | refine aC (Sees.frz 5 rfl) ?_ | refine aC (Sees.frz 4 rfl) ?_
   simp only [go_sem]
   exact aA ⟨⟨_, rfl, by simp only [go_sem, e, List.map_nil]; try simp⟩, by simp [aH]⟩
  have vo : decide (o.fFile.fOwner = u) = true := by simp [ho]
  have hk := a4q c o.fFile (by omega)
  cases hB : sS c o.fFile
  ·obtain ⟨n1, n2⟩ := b6i hB
   rw [hB, n1, n2] at hk
   have e : fI c u o = (c, [], false) := by rw [e0]; simp [kG, k2, ho, hB, n1, n2]
   have q0 := @hu; have q1 := @hc; have q2 := @g1; have q3 := @g2; have q4 := @g3; have q5 := @g4; have q6 := @g5; have q7 := @vo; refine b7l (bM c (by omega)) (bE c (by omega)) (aY u 0 2) (eY c.fStore o.fFile.fID (by omega)) hk ?_
   first | refine aC (Sees.frz 9 rfl) ?_ | refine aC (Sees.frz 8 rfl) ?_ | refine aC (Sees.frz 7 rfl) ?_ | refine aC (Sees.frz 6 rfl) ?_ | refine aC (Sees.frz 5 rfl) ?_ | refine aC (Sees.frz 4 rfl) ?_
   simp only [go_sem]
   exact aA ⟨⟨_, rfl, by simp only [go_sem, e, List.map_nil]; try simp⟩, by simp [aH]⟩
  rw [hB] at hk
  by_cases h1 : 0 ≤ ixF o.fFile.fID c.fStore.fFiles
  case neg =>
   have vi : decide (0 ≤ ixF o.fFile.fID c.fStore.fFiles) = false := by simp [h1]
   have e : fI c u o = (c, [], false) := by rw [e0]; simp [kG, lM, k2, ho, h1]
   have q0 := @hu; have q1 := @hc; have q2 := @g1; have q3 := @g2; have q4 := @g3; have q5 := @g4; have q6 := @g5; have q7 := @vo; have q8 := @vi; refine b4I (bM c (by omega)) (bE c (by omega)) (aY u 0 2) (eY c.fStore o.fFile.fID (by omega)) hk ?_
   first | refine aC (Sees.frz 9 rfl) ?_ | refine aC (Sees.frz 8 rfl) ?_ | refine aC (Sees.frz 7 rfl) ?_ | refine aC (Sees.frz 6 rfl) ?_ | refine aC (Sees.frz 5 rfl) ?_ | refine aC (Sees.frz 4 rfl) ?_
   simp only [go_sem]
   exact aA ⟨⟨_, rfl, by simp only [go_sem, e, List.map_nil]; try simp⟩, by simp [aH]⟩
  have vi : decide (0 ≤ ixF o.fFile.fID c.fStore.fFiles) = true := by simp [h1]
  cases h2 : a6C (iI o.fFile.fID c.fStore.fFiles) u
  ·skip
   have e : fI c u o = (c, [], false) := by rw [e0]; simp [kG, lM, k2, ho, h1, h2]
   have q0 := @hu; have q1 := @hc; have q2 := @g1; have q3 := @g2; have q4 := @g3; have q5 := @g4; have q6 := @g5; have q7 := @vo; have q8 := @vi; have q9 := @h2; refine b5u (bM c (by omega)) (bE c (by omega)) (aY u 0 2) (eY c.fStore o.fFile.fID (by omega)) (pX (iI o.fFile.fID c.fStore.fFiles) u) hk ?_
   first | refine aC (Sees.frz 9 rfl) ?_ | refine aC (Sees.frz 8 rfl) ?_ | refine aC (Sees.frz 7 rfl) ?_ | refine aC (Sees.frz 6 rfl) ?_ | refine aC (Sees.frz 5 rfl) ?_ | refine aC (Sees.frz 4 rfl) ?_
   simp only [go_sem]
   exact aA ⟨⟨_, rfl, by simp only [go_sem, e, List.map_nil]; try simp⟩, by simp [aH]⟩
  ·skip
   have e : fI c u o = (a1l c o.fFile, a1m c o.fFile, true) := by rw [e0]; simp [kG, lM, k2, ho, h1, h2, hB]
   have q0 := @hu; have q1 := @hc; have q2 := @g1; have q3 := @g2; have q4 := @g3; have q5 := @g4; have q6 := @g5; have q7 := @vo; have q8 := @vi; have q9 := @h2; refine b5u (bM c (by omega)) (bE c (by omega)) (aY u 0 2) (eY c.fStore o.fFile.fID (by omega)) (pX (iI o.fFile.fID c.fStore.fFiles) u) hk ?_
   exact aA ⟨⟨_, rfl, by simp only [go_sem, e, List.map_nil]; try simp⟩, by simp [aH]⟩
 by_cases k3 : o.fKind = 3
 ·skip
  have g1 : decide (o.fKind = 1) = false := by simp [k3]
  have g2 : decide (o.fKind = 2) = false := by simp [k3]
  have g3 : decide (o.fKind = 3) = true := by simp [k3]
  have g4 : decide (o.fKind = 4) = false := by simp [k3]
  have g5 : decide (o.fKind = 5) = false := by simp [k3]
  have hk := a4o c o.fID (by omega)
  cases hB : sQ c o.fID
  ·obtain ⟨n1, n2⟩ := b6j hB
   rw [hB, n1, n2] at hk
   have e : fI c u o = (c, [], false) := by rw [e0]; simp [kG, k3, hB, n1, n2]
   have q0 := @hu; have q1 := @hc; have q2 := @g1; have q3 := @g2; have q4 := @g3; have q5 := @g4; have q6 := @g5; refine b8e (bM c (by omega)) (bE c (by omega)) (aY u 0 2) (eY c.fStore o.fID (by omega)) hk ?_
   first | refine aC (Sees.frz 9 rfl) ?_ | refine aC (Sees.frz 8 rfl) ?_ | refine aC (Sees.frz 7 rfl) ?_ | refine aC (Sees.frz 6 rfl) ?_ | refine aC (Sees.frz 5 rfl) ?_ | refine aC (Sees.frz 4 rfl) ?_
   simp only [go_sem]
   exact aA ⟨⟨_, rfl, by simp only [go_sem, e, List.map_nil]; try simp⟩, by simp [aH]⟩
  rw [hB] at hk
  by_cases h1 : 0 ≤ ixF o.fID c.fStore.fFiles
  case neg =>
   have vi : decide (0 ≤ ixF o.fID c.fStore.fFiles) = false := by simp [h1]
   have e : fI c u o = (c, [], false) := by rw [e0]; simp [kG, lM, k3, h1]
   have q0 := @hu; have q1 := @hc; have q2 := @g1; have q3 := @g2; have q4 := @g3; have q5 := @g4; have q6 := @g5; have q7 := @vi; refine b7l (bM c (by omega)) (bE c (by omega)) (aY u 0 2) (eY c.fStore o.fID (by omega)) hk ?_
   first | refine aC (Sees.frz 9 rfl) ?_ | refine aC (Sees.frz 8 rfl) ?_ | refine aC (Sees.frz 7 rfl) ?_ | refine aC (Sees.frz 6 rfl) ?_ | refine aC (Sees.frz 5 rfl) ?_ | refine aC (Sees.frz 4 rfl) ?_
   simp only [go_sem]
   exact aA ⟨⟨_, rfl, by simp only [go_sem, e, List.map_nil]; try simp⟩, by simp [aH]⟩
  have vi : decide (0 ≤ ixF o.fID c.fStore.fFiles) = true := by simp [h1]
  cases h2 : a6C (iI o.fID c.fStore.fFiles) u
  ·skip
   have e : fI c u o = (c, [], false) := by rw [e0]; simp [kG, lM, k3, h1, h2]
   have q0 := @hu; have q1 := @hc; have q2 := @g1; have q3 := @g2; have q4 := @g3; have q5 := @g4; have q6 := @g5; have q7 := @vi; have q8 := @h2; refine b7m (bM c (by omega)) (bE c (by omega)) (aY u 0 2) (eY c.fStore o.fID (by omega)) (pX (iI o.fID c.fStore.fFiles) u) hk ?_
   first | refine aC (Sees.frz 9 rfl) ?_ | refine aC (Sees.frz 8 rfl) ?_ | refine aC (Sees.frz 7 rfl) ?_ | refine aC (Sees.frz 6 rfl) ?_ | refine aC (Sees.frz 5 rfl) ?_ | refine aC (Sees.frz 4 rfl) ?_
   simp only [go_sem]
   exact aA ⟨⟨_, rfl, by simp only [go_sem, e, List.map_nil]; try simp⟩, by simp [aH]⟩
  ·skip
   have e : fI c u o = (a1j c o.fID, a1k c o.fID, true) := by rw [e0]; simp [kG, lM, k3, h1, h2, hB]
   have q0 := @hu; have q1 := @hc; have q2 := @g1; have q3 := @g2; have q4 := @g3; have q5 := @g4; have q6 := @g5; have q7 := @vi; have q8 := @h2; refine b7m (bM c (by omega)) (bE c (by omega)) (aY u 0 2) (eY c.fStore o.fID (by omega)) (pX (iI o.fID c.fStore.fFiles) u) hk ?_
   exact aA ⟨⟨_, rfl, by simp only [go_sem, e, List.map_nil]; try simp⟩, by simp [aH]⟩
 by_cases k4 : o.fKind = 4
 ·skip
  have g1 : decide (o.fKind = 1) = false := by simp [k4]
  have g2 : decide (o.fKind = 2) = false := by simp [k4]
  have g3 : decide (o.fKind = 3) = false := by simp [k4]
  have g4 : decide (o.fKind = 4) = true := by simp [k4]
  have g5 : decide (o.fKind = 5) = false := by simp [k4]
  have hk := a4a c o.fDir (by omega)
  cases hB : nM c o.fDir
  ·obtain ⟨n1, n2⟩ := b6k hB
   rw [hB, n1, n2] at hk
   have e : fI c u o = (c, [], false) := by rw [e0]; simp [kG, lM, k4, hB, n1, n2]
   have q0 := @hu; have q1 := @hc; have q2 := @g1; have q3 := @g2; have q4 := @g3; have q5 := @g4; have q6 := @g5; refine b4G (bM c (by omega)) (bE c (by omega)) (aY u 0 2) hk ?_
   first | refine aC (Sees.frz 9 rfl) ?_ | refine aC (Sees.frz 8 rfl) ?_ | refine aC (Sees.frz 7 rfl) ?_ | refine aC (Sees.frz 6 rfl) ?_ | refine aC (Sees.frz 5 rfl) ?_ | refine aC (Sees.frz 4 rfl) ?_
   simp only [go_sem]
   exact aA ⟨⟨_, rfl, by simp only [go_sem, e, List.map_nil]; try simp⟩, by simp [aH]⟩
  ·rw [hB] at hk
   have e : fI c u o = (yM c o.fDir, yN c o.fDir, true) := by rw [e0]; simp [kG, lM, k4, hB]
   have q0 := @hu; have q1 := @hc; have q2 := @g1; have q3 := @g2; have q4 := @g3; have q5 := @g4; have q6 := @g5; refine b4G (bM c (by omega)) (bE c (by omega)) (aY u 0 2) hk ?_
   exact aA ⟨⟨_, rfl, by simp only [go_sem, e, List.map_nil]; try simp⟩, by simp [aH]⟩
 by_cases k5 : o.fKind = 5
 ·skip
  have g1 : decide (o.fKind = 1) = false := by simp [k5]
  have g2 : decide (o.fKind = 2) = false := by simp [k5]
  have g3 : decide (o.fKind = 3) = false := by simp [k5]
  have g4 : decide (o.fKind = 4) = false := by simp [k5]
  have g5 : decide (o.fKind = 5) = true := by simp [k5]
  have hk := a3Y c o.fDir.fName hc (by omega)
  cases hB : vU c o.fDir.fName
  ·obtain ⟨n1, n2⟩ := b6l hB
   rw [hB, n1, n2] at hk
   have e : fI c u o = (c, [], false) := by rw [e0]; simp [kG, lM, k5, hB, n1, n2]
   have q0 := @hu; have q1 := @hc; have q2 := @g1; have q3 := @g2; have q4 := @g3; have q5 := @g4; have q6 := @g5; refine b4G (bM c (by omega)) (bE c (by omega)) (aY u 0 2) hk ?_
   first | refine aC (Sees.frz 9 rfl) ?_ | refine aC (Sees.frz 8 rfl) ?_ | refine aC (Sees.frz 7 rfl) ?_ | refine aC (Sees.frz 6 rfl) ?_ | refine aC (Sees.frz 5 rfl) ?_ | refine aC (Sees.frz 4 rfl) ?_
   simp only [go_sem]
   exact aA ⟨⟨_, rfl, by simp only [go_sem, e, List.map_nil]; try simp⟩, by simp [aH]⟩
  ·rw [hB] at hk
   have e : fI c u o = (a3W c o.fDir.fName, a3X c o.fDir.fName, true) := by rw [e0]; simp [kG, lM, k5, hB]
   have q0 := @hu; have q1 := @hc; have q2 := @g1; have q3 := @g2; have q4 := @g3; have q5 := @g4; have q6 := @g5; refine b4G (bM c (by omega)) (bE c (by omega)) (aY u 0 2) hk ?_
   exact aA ⟨⟨_, rfl, by simp only [go_sem, e, List.map_nil]; try simp⟩, by simp [aH]⟩
 have g1 : decide (o.fKind = 1) = false := by simp [k1]
 have g2 : decide (o.fKind = 2) = false := by simp [k2]
 have g3 : decide (o.fKind = 3) = false := by simp [k3]
 have g4 : decide (o.fKind = 4) = false := by simp [k4]
 have g5 : decide (o.fKind = 5) = false := by simp [k5]
 have e : fI c u o = (c, [], false) := by rw [e0]; simp [kG, lM, k1, k2, k3, k4, k5]
 have q0 := @hu; have q1 := @hc; have q2 := @g1; have q3 := @g2; have q4 := @g3; have q5 := @g4; have q6 := @g5; refine b6g (bM c (by omega)) (bE c (by omega)) (aY u 0 2) ?_
 first | refine aC (Sees.frz 9 rfl) ?_ | refine aC (Sees.frz 8 rfl) ?_ | refine aC (Sees.frz 7 rfl) ?_ | refine aC (Sees.frz 6 rfl) ?_ | refine aC (Sees.frz 5 rfl) ?_ | refine aC (Sees.frz 4 rfl) ?_
 simp only [go_sem]
 exact aA ⟨⟨_, rfl, by simp only [go_sem, e, List.map_nil]; try simp⟩, by simp [aH]⟩
end Go.Proofs.YteaaopodnbjpoaaGreat
end
section
set_option maxRecDepth 100000
set_option maxHeartbeats 4000000
namespace Go.Proofs.YteaaopodnbjpoaaGreat
open Go Go.Sx Go.RowKit Go.Proofs Go.Sx.Clos
theorem a5N (c : TCatalog) (u : Int) (o : TChange) (h : wCatalog c + wChange o ≤ 1900000) : FnC Tryz.prog 27 [bJ c, oi u, lI o] (ob (fI c u o).2.2) := by
 refine ent Tryz.func27 rfl Tryz.call27 rfl (fun C => ?_); simp only [go_sem, st0, Tryz.ntmps27]
 refine fQ (a5P c u o h) ?_
 exact aA ⟨⟨_, rfl, by simp only [go_sem]⟩, trivial⟩
theorem a5O (c : TCatalog) (u : Int) (o : TChange) (h : wCatalog c + wChange o ≤ 1900000) : FnC Tryz.prog 25 [bJ c, oi u, lI o] (ob (fI c u o).2.2) := by
 refine ent Tryz.func25 rfl Tryz.call25 rfl (fun C => ?_); simp only [go_sem, st0, Tryz.ntmps25]
 refine fQ (a5Q c u o h) ?_
 exact aA ⟨⟨_, rfl, by simp only [go_sem]⟩, trivial⟩
theorem a1T (c : TCatalog) (u : Int) (o : TChange) (hfc : rQ c) (hfo : wE o) : FnC Tryz.prog 4 [bJ c, oi u, lI o] (ob true) := by
 refine ent Tryz.func4 rfl Tryz.call4 rfl (fun C => ?_); simp only [go_sem, st0, Tryz.ntmps4]
 have z1 := a5W c 1048576 (by omega) hfc
 by_cases h1 : bR 1048576 (wCatalog c) < 0
 ·have q0 := @h1; refine fC z1 ?_
  exact aA ⟨⟨_, rfl, by simp only [go_sem]⟩, trivial⟩
 have s1 : wCatalog c ≤ 1048576 := by have := a7n h1; omega
 have e1 : bR 1048576 (wCatalog c) = 1048576 - (wCatalog c : Nat) := aZ (by omega)
 rw [e1] at z1 h1
 have z2 := a7y o (1048576 - (wCatalog c : Nat)) (by omega) hfo
 by_cases h2 : bR (1048576 - (wCatalog c : Nat)) (wChange o) < 0
 ·have q0 := @h1; have q1 := @h2; refine yK z1 z2 ?_
  exact aA ⟨⟨_, rfl, by simp only [go_sem]⟩, trivial⟩
 have s2 : wCatalog c + wChange o ≤ 1048576 := by have := a7n h2; omega
 have e2 : bR (1048576 - (wCatalog c : Nat)) (wChange o) = 1048576 - (wCatalog c : Nat) - (wChange o : Nat) := aZ (by omega)
 rw [e2] at z2 h2
 have hi := a5N c u o (by omega)
 have hk := a5O c u o (by omega)
 generalize (fI c u o).2.2 = B at *
 cases B
 all_goals
  have qH := aI @h1 (aI @h2 (aI @Bool.true_beq @Bool.false_beq)); repeat' (with_reducible first | refine nY ?_ | (refine mX ?_; try simp only [go_sem, qH]) | refine kD ?_ | refine rD ?_ | refine cP z1 ?_ | refine cP z2 ?_ | refine cP (a4e c (by omega)) ?_ | refine cP (a5Z o (by omega)) ?_ | refine cP hk ?_ | refine cP hi ?_ | refine cP (a5Y c (by omega)) ?_ | refine cP (a7A o (by omega)) ?_ | refine aO ?_ | fail)
  exact aA ⟨⟨_, rfl, by simp only [go_sem]⟩, trivial⟩
end Go.Proofs.YteaaopodnbjpoaaGreat
end
