/- Joined texts. -/
import Derived.Test.YtgfngchfmohhbaaDoorZ06
import Derived.Test.YtgfngchfmohhbaaDoorZ01
import Derived.Test.YtgfngchfmohhbaaDoorZ05
import Derived.Lib.LaidTab
import Derived.Test.YtgfngchfmohhbaaDoorCards
import Derived.Test.YtgfngchfmohhbaaDoorTie
import Derived.OpenShut
import Derived.WalkKit
import Derived.ProofKit
import Derived.Deep.DeepHandedRow
import Derived.Stop.LaidErr
import Derived.Sort.Row
import Derived.Sort.Grow
import Derived.Shelf.RegionOpenPlain
import Derived.Deep.LoopGhost
import Derived.Deep.Draws
import Derived.Lib.Walk
import Derived.Lib.SliceRun
import Derived.Shelf.SlicesE.Kit
import Derived.Shelf.SlicesE.DeleteFunc
set_option linter.all false
section
set_option maxRecDepth 100000
set_option maxHeartbeats 4000000
namespace Go.Proofs.YtgfngchfmohhbaaDoor
open Go Go.Sx Go.RowKit Go.Proofs
def low (s : ByteArray) (k : Nat) : Bool := inB (dQ s k) 97 122
def gP (s : ByteArray) : Bool := (List.range s.size).all (low s)
def fU (s : ByteArray) (n : Int) : Bool := gP s && inB s.size 1 n
theorem a0q (s : ByteArray) (n : Int) (hs : s.size ≤ 4300000) : FnC Tryd.prog 96 [os s, oi n] (ob (fU s n)) := by
 refine ent Tryd.func96 rfl Tryd.call96 rfl (fun C => ?_); simp only [go_sem, st0, Tryd.ntmps96]
 refine aH ?_
 refine bB (α := Nat) (fun k => [(5, oi k)]) (fun _ => []) (fun k => k ≤ s.size ∧ gP s = ((List.range s.size).drop k).all (low s)) (fun k => s.size - k) 0 (fun _ => ?_) ?_ ?_ (fun k hk => ?_)
 ·simp only [go_sem]
 ·simp only [go_sem]; simp
 ·simp [gP]
 ·obtain ⟨hk, hq⟩ := hk
  simp only [go_sem]
  refine aH ?_
  refine cnd rfl (fun h => ?_) (fun h => ?_)
  ·simp only [decide_eq_true_eq, Int.ofNat_lt] at h
   have h' : k < (List.range s.size).length := by simpa using h
   have hd := List.drop_eq_getElem_cons h'
   rw [hd, List.all_cons, List.getElem_range] at hq
   have hb := vC s k
   by_cases h1 : dQ s k < 97
   ·have hf : gP s = false := by rw [hq]; simp [low, inB]; omega
    have q0 := @h; have q1 := @h1; refine lC ?_
    exact aA ⟨⟨_, rfl, by simp only [go_sem, fU, hf, Bool.false_and]⟩, trivial⟩
   by_cases h2 : 122 < dQ s k
   ·have hf : gP s = false := by rw [hq]; simp [low, inB]; omega
    have q0 := @h; have q1 := @h1; have q2 := @h2; have q3 := @decide_false; refine oD ?_
    exact aA ⟨⟨_, rfl, by simp only [go_sem, fU, hf, Bool.false_and]⟩, trivial⟩
   ·have q0 := @h; have q1 := @h1; have q2 := @h2; have q3 := @decide_false; refine oD ?_
    refine aM (k + 1) ?_ ?_ ?_
    ·simp only [go_sem]; simp
    ·refine ⟨h, ?_⟩
     have hl : low s k = true := by simp [low, inB]; omega
     rw [hq, hl]; simp
    ·omega
  ·simp only [decide_eq_false_iff_not] at h
   have e : k = s.size := by omega
   have hq' : gP s = true := by
    rw [hq, List.drop_of_length_le (by simp [e])]; rfl
   refine qB (sM s.size 1 n) ?_
   refine aA ⟨⟨_, rfl, ?_⟩, ?_⟩
   ·simp only [go_sem, fU, hq']
   ·trivial
theorem fM (s : ByteArray) (hs : s.size ≤ 4300000) : FnC Tryd.prog 82 [os s] (ob (fU s 6)) := by
 refine ent Tryd.func82 rfl Tryd.call82 rfl (fun C => ?_); simp only [go_sem, st0, Tryd.ntmps82]
 refine qB (a0q s 6 hs) ?_
 exact aA ⟨⟨_, rfl, by simp only [go_sem]⟩, trivial⟩
theorem fO (s : ByteArray) (hs : s.size ≤ 4300000) : FnC Tryd.prog 84 [os s] (ob (fU s 6)) := by
 refine ent Tryd.func84 rfl Tryd.call84 rfl (fun C => ?_); simp only [go_sem, st0, Tryd.ntmps84]
 refine aH ?_
 refine bB (α := Nat) (fun k => [(6, oi k)]) (fun _ => []) (fun k => k ≤ s.size ∧ gP s = ((List.range s.size).drop k).all (low s)) (fun k => s.size - k) 0 (fun _ => ?_) ?_ ?_ (fun k hk => ?_)
 ·simp only [go_sem]
 ·simp only [go_sem]; simp
 ·simp [gP]
 ·obtain ⟨hk, hq⟩ := hk
  simp only [go_sem]
  refine aH ?_
  refine cnd rfl (fun h => ?_) (fun h => ?_)
  ·simp only [decide_eq_true_eq, Int.ofNat_lt] at h
   have h' : k < (List.range s.size).length := by simpa using h
   have hd := List.drop_eq_getElem_cons h'
   rw [hd, List.all_cons, List.getElem_range] at hq
   have hb := vC s k
   by_cases h1 : dQ s k < 97
   ·have hf : gP s = false := by rw [hq]; simp [low, inB]; omega
    have q0 := @h; have q1 := @h1; refine lC ?_
    exact aA ⟨⟨_, rfl, by simp only [go_sem, fU, hf, Bool.false_and]⟩, trivial⟩
   by_cases h2 : 122 < dQ s k
   ·have hf : gP s = false := by rw [hq]; simp [low, inB]; omega
    have q0 := @h; have q1 := @h1; have q2 := @h2; have q3 := @decide_false; refine oD ?_
    exact aA ⟨⟨_, rfl, by simp only [go_sem, fU, hf, Bool.false_and]⟩, trivial⟩
   ·have q0 := @h; have q1 := @h1; have q2 := @h2; have q3 := @decide_false; refine oD ?_
    refine aM (k + 1) ?_ ?_ ?_
    ·simp only [go_sem]; simp
    ·refine ⟨h, ?_⟩
     have hl : low s k = true := by simp [low, inB]; omega
     rw [hq, hl]; simp
    ·omega
  ·simp only [decide_eq_false_iff_not] at h
   have e : k = s.size := by omega
   have hq' : gP s = true := by
    rw [hq, List.drop_of_length_le (by simp [e])]; rfl
   refine qB (oF s.size 1 6) ?_
   refine aA ⟨⟨_, rfl, ?_⟩, ?_⟩
   ·simp only [go_sem, fU, hq']
   ·trivial
def fP (v : TValue) : Bool :=
 if v.fKind = 0 then decide (v.fInt = 0) && decide (v.fStr = ⟨#[]⟩)
 else if v.fKind = 1 then inB v.fInt 0 999 && decide (v.fStr = ⟨#[]⟩)
 else if v.fKind = 2 then fU v.fStr 6 && decide (v.fInt = 0) else false
theorem bX (v : TValue) (hs : v.fStr.size ≤ 4300000) : FnC Tryd.prog 62 [fA v] (ob (fP v)) := by
 refine ent Tryd.func62 rfl Tryd.call62 rfl (fun C => ?_); simp only [go_sem, st0, Tryd.ntmps62]
 by_cases h0 : v.fKind = 0
 ·have q0 := @h0; have q1 := @decide_true; refine lC ?_
  exact aA ⟨⟨_, rfl, by simp only [go_sem, fP, h0, if_true, decide_true, Bool.true_and]⟩, trivial⟩
 by_cases h1 : v.fKind = 1
 ·cases hb : inB v.fInt 0 999
  ·have q0 := @h0; have q1 := @h1; have q2 := @decide_true; have q3 := @decide_false; have q4 := @hb; refine a1x (oF v.fInt 0 999) ?_
   exact aA ⟨⟨_, rfl, by simp only [go_sem, fP, h0, h1, hb, if_true, if_false, Bool.false_and]⟩, trivial⟩
  ·have q0 := @h0; have q1 := @h1; have q2 := @decide_true; have q3 := @decide_false; have q4 := @hb; refine a1x (oF v.fInt 0 999) ?_
   exact aA ⟨⟨_, rfl, by simp only [go_sem, fP, h0, h1, hb, if_true, if_false, Bool.true_and]⟩, trivial⟩
 by_cases h2 : v.fKind = 2
 ·cases hb : fU v.fStr 6
  ·have q0 := @h0; have q1 := @h1; have q2 := @h2; have q3 := @decide_true; have q4 := @decide_false; have q5 := @hb; refine a1y (fO v.fStr hs) ?_
   exact aA ⟨⟨_, rfl, by simp only [go_sem, fP, h0, h1, h2, hb, if_true, if_false, Bool.false_and]⟩, trivial⟩
  ·have q0 := @h0; have q1 := @h1; have q2 := @h2; have q3 := @decide_true; have q4 := @decide_false; have q5 := @hb; refine a1y (fO v.fStr hs) ?_
   exact aA ⟨⟨_, rfl, by simp only [go_sem, fP, h0, h1, h2, hb, if_true, if_false, Bool.true_and]⟩, trivial⟩
 ·have q0 := @h0; have q1 := @h1; have q2 := @h2; have q3 := @decide_false; refine oD ?_
  exact aA ⟨⟨_, rfl, by simp only [go_sem, fP, h0, h1, h2, if_false]⟩, trivial⟩
theorem bY (v : TValue) (hs : v.fStr.size ≤ 4300000) : FnC Tryd.prog 61 [fA v] (ob (fP v)) := by
 refine ent Tryd.func61 rfl Tryd.call61 rfl (fun C => ?_); simp only [go_sem, st0, Tryd.ntmps61]
 by_cases h0 : v.fKind = 0
 ·have q0 := @h0; have q1 := @decide_true; refine lC ?_
  exact aA ⟨⟨_, rfl, by simp only [go_sem, fP, h0, if_true, decide_true, Bool.true_and]⟩, trivial⟩
 by_cases h1 : v.fKind = 1
 ·cases hb : inB v.fInt 0 999
  ·have q0 := @h0; have q1 := @h1; have q2 := @decide_true; have q3 := @decide_false; have q4 := @hb; refine a1x (sM v.fInt 0 999) ?_
   exact aA ⟨⟨_, rfl, by simp only [go_sem, fP, h0, h1, hb, if_true, if_false, Bool.false_and]⟩, trivial⟩
  ·have q0 := @h0; have q1 := @h1; have q2 := @decide_true; have q3 := @decide_false; have q4 := @hb; refine a1x (sM v.fInt 0 999) ?_
   exact aA ⟨⟨_, rfl, by simp only [go_sem, fP, h0, h1, hb, if_true, if_false, Bool.true_and]⟩, trivial⟩
 by_cases h2 : v.fKind = 2
 ·cases hb : fU v.fStr 6
  ·have q0 := @h0; have q1 := @h1; have q2 := @h2; have q3 := @decide_true; have q4 := @decide_false; have q5 := @hb; refine a1y (fM v.fStr hs) ?_
   exact aA ⟨⟨_, rfl, by simp only [go_sem, fP, h0, h1, h2, hb, if_true, if_false, Bool.false_and]⟩, trivial⟩
  ·have q0 := @h0; have q1 := @h1; have q2 := @h2; have q3 := @decide_true; have q4 := @decide_false; have q5 := @hb; refine a1y (fM v.fStr hs) ?_
   exact aA ⟨⟨_, rfl, by simp only [go_sem, fP, h0, h1, h2, hb, if_true, if_false, Bool.true_and]⟩, trivial⟩
 ·have q0 := @h0; have q1 := @h1; have q2 := @h2; have q3 := @decide_false; refine oD ?_
  exact aA ⟨⟨_, rfl, by simp only [go_sem, fP, h0, h1, h2, if_false]⟩, trivial⟩
theorem pE : ((List.range 20).map fun i => Value.int .u64 ((10 ^ i : Nat) : Int)) = Lib.pow10Tab.map fun z => Value.int .u64 z := by
 unfold Lib.pow10Tab; rw [List.map_map]; rfl
theorem jV : Tryd.prog.globalNamed "internal/strconv.uint64pow10" = some 1 := by kernel_rfl
theorem a3N {w : World} {X : List Nat} (h : tabOK w X) : Lib.TabIs Tryd.prog w "internal/strconv.uint64pow10" .u64 Lib.pow10Tab := by
 obtain ⟨_, ty, fz, h1⟩ := h _ (List.mem_cons_self ..)
 unfold Lib.TabIs World.var?
 rw [jV, Option.bind_some, h1]
 simp only [pE]
theorem a3O {w : World} (h : Lib.TabIs Tryd.prog w "internal/strconv.uint64pow10" .u64 Lib.pow10Tab) : tabOK w [] := by
 intro t ht
 obtain rfl := List.mem_singleton.1 ht
 refine ⟨by simp, ?_⟩
 unfold Lib.TabIs World.var? at h
 rw [jV, Option.bind_some] at h
 simp only [pE]
 split at h
 ·rename_i cs ty fz e
  cases h
  exact ⟨ty, fz, e⟩
 ·cases h
def itoaB (n : Int) : ByteArray := ⟨(Lib.itoa n).toArray⟩
theorem a2O (n : Int) (hn : inR .i64 n) : FnC Tryd.prog 66 [oi n] (os (itoaB n)) := by
 refine ⟨Tryd.call66, fun V w vs htab hm hargs => ?_⟩
 obtain ⟨hl, hv⟩ := hargs
 match vs, hl with
 | [y], _ =>
  obtain ⟨rfl, _⟩ := aF (hv 0 (oi n) y rfl rfl)
  refine (Any.strconv_Itoa Tryd.laysItoa n hn.1 hn.2 w (a3N htab)).mono ?_
  rintro e w' ⟨rfl, k, ob', rfl⟩
  have hb : ∀ k' : Nat, k' < w.heap.size → (w.heap ++ ob')[k']? = w.heap[k']? := fun k' hk' => Array.getElem?_append_left hk'
  refine ⟨_, rfl, ⟨V, [], View.le.refl V, ?_, (fun b cs h1 h2 => by rw [h1] at h2; cases h2), ?_, List.nodup_nil, (fun b hb => by cases hb)⟩, ⟨rfl, rfl, rfl, ?_, hb⟩⟩
  ·intro b cs hbc
   obtain ⟨c, ty, fz, h1, h2⟩ := hm b cs hbc
   exact ⟨c, ty, fz, by rw [← h1]; exact hb b (Array.getElem?_eq_some_iff.1 h1).1, h2⟩
  ·refine ⟨[.string (itoaB n)], rfl, [[]], rfl, rfl, rfl, fun k a y s h1 h2 h3 => ?_⟩
   match k, h1, h2, h3 with
   | 0, rfl, rfl, rfl => exact ⟨rfl, [], .v _ rfl⟩
  ·show w.heap.size ≤ (w.heap ++ ob').size
   rw [Array.size_append]; omega
theorem bZ (n : Int) (hn : inR .i64 n) : FnC Tryd.prog 42 [oi n] (os (itoaB n)) := by
 refine ent Tryd.func42 rfl Tryd.call42 rfl (fun C => ?_); simp only [go_sem, st0, Tryd.ntmps42]
 refine qB (a2O n hn) ?_
 exact aA ⟨⟨_, rfl, by simp only [go_sem]⟩, trivial⟩
theorem uQ (d : Int) (h0 : 0 ≤ d) (h9 : d < 10) : FnC Tryd.prog 64 [oi d] (.o (.d (.v (.int .u8 (48 + d))))) := by
 refine ent Tryd.func64 rfl Tryd.call64 rfl (fun C => ?_); simp only [go_sem, st0, Tryd.ntmps64]
 have g : decide (d < 10) = true := by simp [h9]
 have i1 : inR .i64 (48 + d) := by unfold inR; simp only; omega
 have i2 : inR .u8 (48 + d) := by unfold inR; simp only; omega
 have q0 := @g; have q1 := @i1; have q2 := @i2; refine yS ?_
 exact aA ⟨⟨_, rfl, by simp only [go_sem]⟩, trivial⟩
def iU (u : Nat) : List UInt8 := if u = 0 then [] else Lib.decDigits u
theorem uR {u : Nat} (h : u ≠ 0) : iU u = iU (u / 10) ++ [UInt8.ofNat (48 + u % 10)] := by
 unfold iU
 rw [if_neg h, Lib.decDigits]
 by_cases h1 : u < 10
 ·have e1 : u / 10 = 0 := by omega
  have e2 : u % 10 = u := by omega
  rw [dif_pos h1, e1, if_pos rfl, e2]; rfl
 ·rw [dif_neg h1, if_neg (by omega)]
theorem mH : ∀ (k u : Nat), u < 10 ^ k → (iU u).length ≤ k
 | 0, u, h => by have : u = 0 := by simpa using h
                 subst this; simp [iU]
 | k + 1, u, h => by
  by_cases h0 : u = 0
  ·subst h0; simp [iU]
  ·rw [uR h0, List.length_append]
   have := mH k (u / 10) (by rw [Nat.pow_succ] at h; omega)
   simp; omega
theorem nT {n : Int} (h : n ≠ 0) : Lib.itoa n = if n < 0 then 45 :: iU n.natAbs else iU n.natAbs := by
 unfold Lib.itoa iU
 have h1 : n.natAbs ≠ 0 := by omega
 rw [if_neg h1]
 split
 ·rfl
 ·have : n.toNat = n.natAbs := by omega
  rw [this]
theorem cB (n : Int) (hn : inR .i64 n) : FnC Tryd.prog 40 [oi n] (os (itoaB n)) := by
 refine ent Tryd.func40 rfl Tryd.call40 rfl (fun C => ?_); simp only [go_sem, st0, Tryd.ntmps40]
 have hn' := hn
 unfold inR at hn'
 simp only at hn'
 by_cases h0 : n = 0
 ·subst h0
  have g : decide ((0 : Int) = 0) = true := rfl
  have e : itoaB 0 = ⟨#[48]⟩ := by simp [itoaB, Lib.itoa, Lib.decDigits]
  have q0 := @g; refine gD ?_
  exact aA ⟨⟨_, rfl, by simp only [go_sem, e]⟩, trivial⟩
 have g : decide (n = 0) = false := by simp [h0]
 have q0 := @g; refine gD ?_
 have hL : (iU n.natAbs).length ≤ 19 := mH 19 _ (by omega)
 have key : ∀ s : ByteArray, s.data.toList = iU n.natAbs → (if n < 0 then (⟨#[45]⟩ : ByteArray) ++ s else s) = itoaB n := by
  intro s hs
  unfold itoaB
  rw [nT h0, ← hs]
  split
  ·apply ByteArray.ext; apply Array.ext'; simp
  ·rfl
 refine bB (α := Int × ByteArray) (fun x => [(0, oi x.1), (4, os x.2)]) (fun _ => []) (fun x => inR .i64 x.1 ∧ iU x.1.natAbs ++ x.2.data.toList = iU n.natAbs) (fun x => x.1.natAbs) (n, ⟨#[]⟩) (fun _ => ?_) ?_ ?_ (fun x hx => ?_)
 ·simp only [go_sem]
 ·simp only [go_sem]; simp
 ·exact ⟨hn, by simp⟩
 ·obtain ⟨m, s⟩ := x
  obtain ⟨hm, hs⟩ := hx
  simp only at hm hs
  have hm' := hm
  unfold inR at hm'
  simp only at hm'
  have hsl : s.size ≤ 19 := by
   have := congrArg List.length hs
   rw [List.length_append] at this
   have e : s.size = s.data.toList.length := rfl
   omega
  simp only [go_sem]
  by_cases h1 : m = 0
  ·subst h1
   have g1 : decide ((0 : Int) = 0) = true := rfl
   have hs' : s.data.toList = iU n.natAbs := by simpa [iU] using hs
   have hk := key s hs'
   by_cases h2 : n < 0
   ·have g2 : decide (n < 0) = true := by simp [h2]
    rw [if_pos h2] at hk
    have i1 : (⟨#[45]⟩ : ByteArray).size + s.size ≤ maxLen := by unfold maxLen; have : (⟨#[45]⟩ : ByteArray).size = 1 := rfl; omega
    have q0 := @g1; have q1 := @g2; have q2 := @i1; have q3 := @Bool.not_true; refine oD ?_
    exact aA ⟨⟨_, rfl, by simp only [go_sem, hk]⟩, trivial⟩
   ·have g2 : decide (n < 0) = false := by simp [h2]
    rw [if_neg h2] at hk
    have q0 := @g1; have q1 := @g2; have q2 := @Bool.not_true; refine yS ?_
    exact aA ⟨⟨_, rfl, by simp only [go_sem, hk]⟩, trivial⟩
  have g1 : decide (m = 0) = false := by simp [h1]
  have hu : m.natAbs ≠ 0 := by omega
  have q1 : (m.tdiv 10).natAbs = m.natAbs / 10 := by rw [Int.natAbs_tdiv]; rfl
  have q2 : (m.tmod 10).natAbs = m.natAbs % 10 := by rw [Int.natAbs_tmod]; rfl
  have i1 : inR .i64 (m.tdiv 10) := by unfold inR; simp only; omega
  have i3 : inR .i64 (0 - m.tmod 10) := by unfold inR; simp only; omega
  have hstep : ∀ d : Int, d = ((m.natAbs % 10 : Nat) : Int) → iU (m.tdiv 10).natAbs ++ (fZ [48 + d] ++ s).data.toList = iU n.natAbs := by
   intro d hd
   rw [← hs, uR hu, q1, hd]
   have e : (48 + ((m.natAbs % 10 : Nat) : Int)).toNat = 48 + m.natAbs % 10 := by omega
   have e2 : (fZ [48 + ((m.natAbs % 10 : Nat) : Int)] ++ s).data.toList = UInt8.ofNat (48 + m.natAbs % 10) :: s.data.toList := by
    unfold fZ
    rw [List.map_cons, List.map_nil, e]
    generalize UInt8.ofNat (48 + m.natAbs % 10) = z
    simp
   rw [e2, List.append_assoc]; rfl
  have i4 : ∀ d : Int, (fZ [48 + d]).size + s.size ≤ maxLen := fun d => by
   have : (fZ [48 + d]).size = 1 := rfl
   unfold maxLen; omega
  by_cases h3 : m.tmod 10 < 0
  ·have g3 : decide (m.tmod 10 < 0) = true := by simp [h3]
   have q0 := @g1; have q1 := @g3; have q2 := @i1; have q3 := @i3; have q4 := @i4; have q5 := @Bool.not_false; refine a1y (uQ (0 - m.tmod 10) (by omega) (by omega)) ?_
   refine aM (m.tdiv 10, fZ [48 + (0 - m.tmod 10)] ++ s) ?_ ?_ ?_
   ·simp only [go_sem]; try simp
   ·exact ⟨i1, hstep _ (by omega)⟩
   ·simp only; omega
  ·have g3 : decide (m.tmod 10 < 0) = false := by simp [h3]
   have q0 := @g1; have q1 := @g3; have q2 := @i1; have q3 := @i3; have q4 := @i4; have q5 := @Bool.not_false; refine a1y (uQ (m.tmod 10) (by omega) (by omega)) ?_
   refine aM (m.tdiv 10, fZ [48 + m.tmod 10] ++ s) ?_ ?_ ?_
   ·simp only [go_sem]; try simp
   ·exact ⟨i1, hstep _ (by omega)⟩
   ·simp only; omega
def iV (v : TValue) : ByteArray := if fP v then (if v.fKind = 1 then itoaB v.fInt else if v.fKind = 2 then v.fStr else ⟨#[45]⟩) else ⟨#[63]⟩
theorem lJ (v : TValue) (hs : v.fStr.size ≤ 4300000) (hi : inR .i64 v.fInt) : FnC Tryd.prog 38 [fA v] (os (iV v)) := by
 refine ent Tryd.func38 rfl Tryd.call38 rfl (fun C => ?_); simp only [go_sem, st0, Tryd.ntmps38]
 cases h0 : fP v
 ·have q0 := @h0; refine jK (bX v hs) ?_
  exact aA ⟨⟨_, rfl, by simp only [go_sem, iV, h0, if_false, Bool.false_eq_true]⟩, trivial⟩
 by_cases h1 : v.fKind = 1
 ·have d1 : decide (v.fKind = 1) = true := by simp [h1]
  have q0 := @h0; have q1 := @d1; refine a5e (bX v hs) (bZ v.fInt hi) ?_
  exact aA ⟨⟨_, rfl, by simp only [go_sem, iV, h0, h1, if_true]⟩, trivial⟩
 have d1 : decide (v.fKind = 1) = false := by simp [h1]
 by_cases h2 : v.fKind = 2
 ·have d2 : decide (v.fKind = 2) = true := by simp [h2]
  have q0 := @h0; have q1 := @d1; have q2 := @d2; refine qC (bX v hs) ?_
  exact aA ⟨⟨_, rfl, by simp only [go_sem, iV, h0, h1, h2, if_true, if_false]⟩, trivial⟩
 ·have d2 : decide (v.fKind = 2) = false := by simp [h2]
  have q0 := @h0; have q1 := @d1; have q2 := @d2; refine qC (bX v hs) ?_
  exact aA ⟨⟨_, rfl, by simp only [go_sem, iV, h0, h1, h2, if_true, if_false]⟩, trivial⟩
theorem lK (v : TValue) (hs : v.fStr.size ≤ 4300000) (hi : inR .i64 v.fInt) : FnC Tryd.prog 37 [fA v] (os (iV v)) := by
 refine ent Tryd.func37 rfl Tryd.call37 rfl (fun C => ?_); simp only [go_sem, st0, Tryd.ntmps37]
 cases h0 : fP v
 ·have q0 := @h0; refine jK (bY v hs) ?_
  exact aA ⟨⟨_, rfl, by simp only [go_sem, iV, h0, if_false, Bool.false_eq_true]⟩, trivial⟩
 by_cases h1 : v.fKind = 1
 ·have d1 : decide (v.fKind = 1) = true := by simp [h1]
  have q0 := @h0; have q1 := @d1; refine a5e (bY v hs) (cB v.fInt hi) ?_
  exact aA ⟨⟨_, rfl, by simp only [go_sem, iV, h0, h1, if_true]⟩, trivial⟩
 have d1 : decide (v.fKind = 1) = false := by simp [h1]
 by_cases h2 : v.fKind = 2
 ·have d2 : decide (v.fKind = 2) = true := by simp [h2]
  have q0 := @h0; have q1 := @d1; have q2 := @d2; refine qC (bY v hs) ?_
  exact aA ⟨⟨_, rfl, by simp only [go_sem, iV, h0, h1, h2, if_true, if_false]⟩, trivial⟩
 ·have d2 : decide (v.fKind = 2) = false := by simp [h2]
  have q0 := @h0; have q1 := @d1; have q2 := @d2; refine qC (bY v hs) ?_
  exact aA ⟨⟨_, rfl, by simp only [go_sem, iV, h0, h1, h2, if_true, if_false]⟩, trivial⟩
end Go.Proofs.YtgfngchfmohhbaaDoor
end
section
namespace Go.Proofs.YtgfngchfmohhbaaDoor
open Go Go.Sx Go.RowKit Go.Proofs
theorem zP : (Tryd.prog.globals[1]?).map (·.type) = some 140 := by kernel_rfl
theorem uH : Tryd.prog.cellsOf 140 = 20 := by kernel_rfl
theorem wI : Tryd.prog.cellsOf 131 = 1 := by kernel_rfl
theorem a1b : Tryd.prog.underlying 140 = some (.array 20 131) := by kernel_rfl
theorem zQ : Tryd.prog.underlying 131 = some (.int .u64) := by kernel_rfl
theorem xU : (Rows.laid_internal_strconv_uint64pow10 : DataW Unit) = Lib.tabData .u64 Lib.pow10Tab := by kernel_rfl
theorem mG {W : World} (h : laidMetH Tryd.prog [("math/bits.deBruijn32tab", Rows.laid_math_bits_deBruijn32tab), ("math/bits.deBruijn64tab", Rows.laid_math_bits_deBruijn64tab), ("internal/strconv.uint64pow10", Rows.laid_internal_strconv_uint64pow10)] W) : tabOK W [] := by
 have h' : laidMet Tryd.prog [("math/bits.deBruijn32tab", Rows.laid_math_bits_deBruijn32tab), ("math/bits.deBruijn64tab", Rows.laid_math_bits_deBruijn64tab), ("internal/strconv.uint64pow10", Rows.laid_internal_strconv_uint64pow10)] W := h
 have h2 := h'.tail.tail
 rw [xU] at h2
 exact a3O (Lib.tabIs_of_head (rest := []) jV zP a1b zQ wI uH h2)
def zR : DataW Unit → Array Value
 | .agg l => (l.map fun | .lit (.int k n) => Value.int k n | _ => .bool false).toArray
 | _ => #[]
def a3M (cs : Array Value) : Obj → Obj
 | .cells _ t frozen => .cells cs t frozen
 | o => o
noncomputable def bG (os : Os) : World :=
 { World.holding Tryd.prog os ⟨#[], #[], []⟩ with heap := (((World.holding Tryd.prog os ⟨#[], #[], []⟩).heap.modify 2 (a3M (zR Rows.laid_math_bits_deBruijn32tab))).modify 3 (a3M (zR Rows.laid_math_bits_deBruijn64tab))).modify 1 (a3M (zR Rows.laid_internal_strconv_uint64pow10)) }
end Go.Proofs.YtgfngchfmohhbaaDoor
end
section
section
set_option linter.all false
namespace Go.Sx
open Go Go.RowKit
def a2F {α : Type} (e : α → Value) (l : List α) : List (List D) := l.map fun x => [.v (e x)]
theorem oM {α : Type} (e : α → Value) (l : List α) : (a2F e l).flatten = l.map fun x => D.v (e x) := by
 induction l with
 | nil => rfl
 | cons x l ih => simp only [a2F, List.map_cons, List.flatten_cons] at ih ⊢; rw [ih]; rfl
end Go.Sx
end
section
set_option linter.all false
namespace Go.Sx
open Go Go.RowKit
structure RowAt (w wr : World) (b ty N : Nat) (F : List Value) : Prop where
 cells : ∃ c : Array Value, wr.heap[b]? = some (.cells c ty (0, 0)) ∧ c.size = N ∧ F <+: c.toList
 grown : w.grownBy wr (some b)
theorem lG {w w1 w2 : World} {r : Option Nat} (h1 : w.grownBy w1 r) (h2 : w1.grownBy w2 r) : w.grownBy w2 r :=
 ⟨h2.os.trans h1.os, h2.tape.trans h1.tape, h2.output.trans h1.output, Nat.le_trans h1.size h2.size, fun k hk hn => (h2.block k (Nat.lt_of_lt_of_le hk h1.size) hn).trans (h1.block k hk hn)⟩
theorem uL {w w' : World} (r : Option Nat) (h : Below w.heap.size w w') : w.grownBy w' r := ⟨h.os, h.tape, h.output, h.size, fun k hk _ => h.block k hk⟩
variable {w wr : World} {b ty N : Nat} {F : List Value}
theorem RowAt.lt (h : RowAt w wr b ty N F) : b < wr.heap.size := by
 obtain ⟨c, h1, _⟩ := h.cells
 exact (Array.getElem?_eq_some_iff.1 h1).1
theorem RowAt.le (h : RowAt w wr b ty N F) : F.length ≤ N := by
 obtain ⟨c, _, h2, h3⟩ := h.cells
 have := h3.length_le
 simpa [h2] using this
theorem RowAt.cell (h : RowAt w wr b ty N F) {t : Nat} {v : Value} (ht : F[t]? = some v) : wr.cell? ⟨b, t, none⟩ = some v := by
 obtain ⟨c, h1, h2, h3⟩ := h.cells
 have := cO h3 ht
 simp only [World.cell?, h1, Option.isSome_none, Bool.false_eq_true, if_false]
 rw [← Array.getElem?_toList]; exact this
theorem RowAt.there (h : RowAt w wr b ty N F) {t : Nat} (ht : t < N) : (wr.cell? ⟨b, t, none⟩).isSome = true := by
 obtain ⟨c, h1, h2, h3⟩ := h.cells
 simp only [World.cell?, h1, Option.isSome_none, Bool.false_eq_true, if_false]
 simp [h2, ht]
theorem RowAt.frozen (h : RowAt w wr b ty N F) (t : Nat) : wr.frozen? ⟨b, t, none⟩ = false := by
 obtain ⟨c, h1, _⟩ := h.cells
 simp [World.frozen?, h1]
theorem RowAt.behind (h : RowAt w wr b ty N F) {w' : World} (hb : Below wr.heap.size wr w') : RowAt w w' b ty N F := by
 obtain ⟨c, h1, h2, h3⟩ := h.cells
 exact ⟨⟨c, by rw [hb.block b h.lt]; exact h1, h2, h3⟩, lG h.grown (uL _ hb)⟩
theorem uM (F : List Value) (s : Nat) (v : Value) (c : List Value) (hF : F <+: c) (hs : s ≤ F.length) (hc : s < c.length) : F.take s ++ v :: F.drop (s + 1) <+: c.set s v := by
 obtain ⟨r, rfl⟩ := hF
 rcases Nat.lt_or_ge s F.length with h | h
 ·refine ⟨r, ?_⟩
  rw [List.set_append_left _ _ h, List.set_eq_take_append_cons_drop, if_pos h]
 ·have e : s = F.length := by omega
  subst e
  rw [List.take_of_length_le (Nat.le_refl _), List.drop_of_length_le (by omega), List.set_append_right _ _ (Nat.le_refl _), Nat.sub_self]
  cases r with
  | nil => simp at hc
  | cons x r => exact ⟨r, by simp⟩
theorem RowAt.set1 (h : RowAt w wr b ty N F) {s : Nat} (hs : s ≤ F.length) (hN : s < N) (v : Value) : RowAt w (wr.setCell ⟨b, s, none⟩ v) b ty N (F.take s ++ v :: F.drop (s + 1)) := by
 obtain ⟨c, h1, h2, h3⟩ := h.cells
 rw [Sort.setCell_eq]
 refine ⟨⟨c.setIfInBounds s v, ?_, by simp [h2], ?_⟩, lG h.grown ⟨rfl, rfl, rfl, by simp [Sort.mapBlock], fun k hk hne => ?_⟩⟩
 ·simp only [Sort.mapBlock, Array.getElem?_modify, if_true, h1, Option.map_some, Sort.onCells]
 ·rw [Array.toList_setIfInBounds]
  exact uM F s v c.toList h3 hs (by simpa [h2] using hN)
 ·simp only [Sort.mapBlock, Array.getElem?_modify]
  rw [if_neg (fun e => hne (by rw [e]))]
theorem RowAt.set : ∀ (vs : List Value) {wr : World} {F : List Value} {s : Nat}, RowAt w wr b ty N F → s ≤ F.length → s + vs.length ≤ N → RowAt w (wr.setCells b s vs) b ty N (F.take s ++ vs ++ F.drop (s + vs.length))
 | [], wr, F, s, h, hs, hN => by simpa [World.setCells] using h
 | v :: vs, wr, F, s, h, hs, hN => by
  simp only [List.length_cons] at hN
  have h1 := h.set1 hs (by omega) v
  have h2 := RowAt.set vs (s := s + 1) h1 (by simp; omega) (by omega)
  rw [World.setCells]
  have e1 : (F.take s ++ v :: F.drop (s + 1)).take (s + 1) = F.take s ++ [v] := by
   rw [List.take_append, List.take_of_length_le (by simp; omega), List.length_take, Nat.min_eq_left hs, Nat.add_sub_cancel_left]; rfl
  have e2 : (F.take s ++ v :: F.drop (s + 1)).drop (s + 1 + vs.length) = F.drop (s + (vs.length + 1)) := by
   rw [List.drop_append, List.drop_of_length_le (by simp; omega), List.length_take, Nat.min_eq_left hs, List.nil_append, show s + 1 + vs.length - s = vs.length + 1 by omega, List.drop_succ_cons, List.drop_drop]
   congr 1; omega
  rw [e1, e2] at h2
  simpa [List.append_assoc] using h2
end Go.Sx
end
section
set_option linter.all false
namespace Go.Proofs.YtgfngchfmohhbaaDoor
open Go Go.Sx Go.RowKit Go.Proofs Go.Lib
structure DelInv {α : Type} (e : α → Value) (p : α → Bool) (xs : List α) (i j : Nat) (F : List Value) : Prop where
 len : F.length = xs.length
 ij : i < j
 jn : j ≤ xs.length
 lo : F.take i = ((xs.take j).filter fun x => !p x).map e
 hi : F.drop j = (xs.drop j).map e
 il : i = ((xs.take j).filter fun x => !p x).length
theorem lD {α : Type} (p : α → Bool) (xs : List α) (k : Nat) (h : ∀ j (hj : j < xs.length), j < k → p xs[j] = false) : (xs.take k).filter (fun x => !p x) = xs.take k := by
 refine List.filter_eq_self.2 fun x hx => ?_
 obtain ⟨j, hj, rfl⟩ := List.mem_iff_getElem.1 hx
 simp only [List.length_take] at hj
 rw [List.getElem_take, h j (by omega) (by omega)]; rfl
theorem DelInv.at {α : Type} {e : α → Value} {p : α → Bool} {xs : List α} {i j : Nat} {F : List Value} (h : DelInv e p xs i j F) (hj : j < xs.length) : F[j]? = some (e xs[j]) := by
 have h0 : (F.drop j)[0]? = ((xs.drop j).map e)[0]? := by rw [h.hi]
 rw [List.getElem?_drop, Nat.add_zero] at h0
 rw [h0, List.getElem?_map, List.getElem?_drop, Nat.add_zero, List.getElem?_eq_getElem hj]; rfl
theorem DelInv.start {α : Type} {e : α → Value} {p : α → Bool} {xs : List α} {k : Nat} (hk : k < xs.length) (h : ∀ j (hj : j < xs.length), j < k → p xs[j] = false) (hp : p xs[k] = true) : DelInv e p xs k (k + 1) (xs.map e) := by
 have e1 : (xs.take (k + 1)).filter (fun x => !p x) = xs.take k := by
  rw [List.take_succ_eq_append_getElem hk, List.filter_append, lD p xs k h]
  simp [hp]
 refine ⟨by simp, by omega, by omega, ?_, by simp, ?_⟩
 ·rw [e1, List.map_take]
 ·rw [e1]; simp; omega
theorem DelInv.keep {α : Type} {e : α → Value} {p : α → Bool} {xs : List α} {i j : Nat} {F : List Value} (h : DelInv e p xs i j F) (hj : j < xs.length) (hp : p xs[j] = false) : DelInv e p xs (i + 1) (j + 1) (F.take i ++ [e xs[j]] ++ F.drop (i + 1)) := by
 have e1 : (xs.take (j + 1)).filter (fun x => !p x) = (xs.take j).filter (fun x => !p x) ++ [xs[j]] := by
  rw [List.take_succ_eq_append_getElem hj, List.filter_append]
  simp [hp]
 have hl := h.len
 have hij := h.ij
 refine ⟨by simp; omega, by omega, by omega, ?_, ?_, ?_⟩
 ·rw [List.take_append_of_le_length (by simp; omega), List.take_of_length_le (by simp; omega), e1, List.map_append, h.lo]; rfl
 ·rw [List.drop_append, List.drop_of_length_le (by simp; omega), List.nil_append, List.drop_drop]
  have : F.drop (j + 1) = (xs.drop (j + 1)).map e := by rw [← List.drop_drop, h.hi, ← List.map_drop, List.drop_drop]
  rw [← this]
  congr 1
  simp; omega
 ·rw [e1, List.length_append, ← h.il]; rfl
theorem DelInv.skip {α : Type} {e : α → Value} {p : α → Bool} {xs : List α} {i j : Nat} {F : List Value} (h : DelInv e p xs i j F) (hj : j < xs.length) (hp : p xs[j] = true) : DelInv e p xs i (j + 1) F := by
 have e1 : (xs.take (j + 1)).filter (fun x => !p x) = (xs.take j).filter (fun x => !p x) := by
  rw [List.take_succ_eq_append_getElem hj, List.filter_append]
  simp [hp]
 have hij := h.ij
 exact ⟨h.len, by omega, by omega, by rw [e1]; exact h.lo, by rw [← List.drop_drop, h.hi, ← List.map_drop, List.drop_drop], by rw [e1]; exact h.il⟩
end Go.Proofs.YtgfngchfmohhbaaDoor
end
section
set_option linter.all false
set_option maxRecDepth 100000
namespace Go.Sx
open Go Go.RowKit
theorem RowAt.mod {V : View} {w W : World} {b ty N : Nat} {F : List Value} (hm : Mod V w) (hV : V b = none) (h : RowAt w W b ty N F) : Mod V W := fun k cs hk => by
 obtain ⟨c, t, fz, e1, e2⟩ := hm k cs hk
 exact ⟨c, t, fz, by rw [h.grown.block k (Array.getElem?_eq_some_iff.1 e1).1 (fun e => by cases e; rw [hV] at hk; cases hk)]; exact e1, e2⟩
def a6w (V : View) (b : Nat) (cs : List Value) : View := fun k => if k = b then some cs else V k
theorem RowAt.row {α : Type} {e : α → Value} (hs : ∀ x, scalar (e x) = true) {V : View} {w w' : World} {ty b cap : Nat} {l : List α} {G : List Value} (h : RowAt w w' b ty cap (l.map e ++ G)) (hcap : cap ≤ maxLen) (hV : V b = none) : RowR V w' ty 1 (a2F e l) (.slice (some ⟨b, 0, none⟩) l.length cap) [b] := by
 have hle := h.le
 rw [List.length_append, List.length_map] at hle
 obtain ⟨c, h1, h2, h3⟩ := h.cells
 refine ⟨fun r hr => ?_, l.map e, List.replicate l.length [], ⟨by rw [oM]; simp, by rw [oM]; simp, fun k dd y s q1 q2 q3 => ?_⟩, .inr ⟨b, cap, c, by simp [a2F], by simp [a2F]; omega, hcap, h1, by simp [h2], (List.prefix_append _ _).trans h3, hV, by simp⟩⟩
 ·obtain ⟨x, _, rfl⟩ := List.mem_map.1 hr; rfl
 ·rw [oM, List.getElem?_map] at q1
  rw [List.getElem?_map] at q2
  cases hk : l[k]? with
  | none => rw [hk] at q1; cases q1
  | some x =>
   rw [hk] at q1 q2
   cases q1; cases q2
   rw [List.getElem?_replicate] at q3
   split at q3
   ·cases q3; exact .v _ (hs x)
   ·cases q3
end Go.Sx
end
section
set_option linter.all false
set_option maxRecDepth 100000
set_option maxHeartbeats 4000000
namespace Go.Proofs.YtgfngchfmohhbaaDoor
open Go Go.Sx Go.RowKit Go.Proofs
def dF {α : Type} (p : α → Bool) : List α → Nat → Int
 | [], _ => -1
 | x :: xs, k => if p x then k else dF p xs (k + 1)
theorem idxP_spec {α : Type} (p : α → Bool) : ∀ (xs : List α) (k : Nat), (dF p xs k = -1 ∧ ∀ x ∈ xs, p x = false) ∨ ∃ k0 : Nat, dF p xs k = ((k + k0 : Nat) : Int) ∧ ∃ h : k0 < xs.length, p xs[k0] = true ∧ ∀ j (hj : j < xs.length), j < k0 → p xs[j] = false
 | [], k => .inl ⟨rfl, fun x hx => by simp at hx⟩
 | x :: xs, k => by
  unfold dF
  cases hx : p x with
  | true => exact .inr ⟨0, by simp, by simp, by simpa using hx, fun j hj h => by omega⟩
  | false =>
   rcases idxP_spec p xs (k + 1) with ⟨h1, h2⟩ | ⟨k0, h1, h2, h3, h4⟩
   ·exact .inl ⟨by simpa using h1, fun y hy => by
     rcases List.mem_cons.1 hy with rfl | hy
     ·exact hx
     ·exact h2 y hy⟩
   ·refine .inr ⟨k0 + 1, by simp only [Bool.false_eq_true, if_false]; rw [h1]; congr 1; omega, by simp; omega, by simpa using h3, fun j hj hk => ?_⟩
    cases j with
    | zero => simpa using hx
    | succ j => simpa using h4 j (by simpa using hj) (by omega)
end Go.Proofs.YtgfngchfmohhbaaDoor
end
end
section
namespace Go.Proofs.YtgfngchfmohhbaaDoor
open Go Go.Sx Go.RowKit Go.Proofs
theorem a5u {α : Type} (l : List α) : (l.all fun _ => true) = true := by simp
def a5v {α : Type} (p : α → Bool) : List α → Nat
 | [] => 0
 | x :: l => if p x then 0 else a5v p l + 1
def a6v {α : Type} (i : Nat) (x : α) (l : List α) : List α := l.take i ++ x :: l.drop i
end Go.Proofs.YtgfngchfmohhbaaDoor
end
section
set_option maxRecDepth 100000
set_option maxHeartbeats 4000000
namespace Go.Proofs.YtgfngchfmohhbaaDoor
open Go Go.Sx Go.RowKit Go.Proofs
theorem Done.same {V : View} {w w' : World} {x : Value} (hs : scalar x = true) (hm : Mod V w) (hb : Below w.heap.size w w') : Done V w (.o (.d (.v x))) x w' := by
 refine ⟨⟨V, [], View.le.refl V, ?_, (fun b cs h1 h2 => by rw [h1] at h2; cases h2), ?_, List.nodup_nil, (fun b hb => by cases hb)⟩, hb⟩
 ·intro b cs hbc
  obtain ⟨c, ty, fz, h1, h2⟩ := hm b cs hbc
  exact ⟨c, ty, fz, by rw [← h1]; exact hb.block b (Array.getElem?_eq_some_iff.1 h1).1, h2⟩
 ·refine ⟨[x], rfl, [[]], rfl, rfl, rfl, fun k a y s h1 h2 h3 => ?_⟩
  match k, h1, h2, h3 with
  | 0, rfl, rfl, rfl => exact ⟨rfl, [], .v _ hs⟩
theorem a1G (l : List ByteArray) : (l.map eH).flatten = l.map fun s => (sv s : D) := by
 induction l with
 | nil => rfl
 | cons x l ih => rw [List.map_cons, List.flatten_cons, ih]; rfl
theorem a3z {V : View} {w : World} {l : List ByteArray} {y : Value} {S : List Nat} (hm : Mod V w) (h : Lay V (.sl (l.map eH)) y S) (hl : l ≠ []) :
    ∃ b o cap, y = .slice (some ⟨b, o, none⟩) l.length cap ∧ l.length ≤ cap ∧ b < w.heap.size ∧ ∀ (j : Nat) x, l[j]? = some x → w.cell? ⟨b, o + j, none⟩ = some (.string x) := by
 rcases lay_sl_inv h with ⟨_, h2⟩ | ⟨ad, cap, sz, ys, Ss, rfl, hsz, hcap, hmax, hL, hc, _⟩
 ·exact absurd (List.map_eq_nil_iff.1 h2) hl
 ·rw [a1G] at hL
  have hy : ∀ (j : Nat) x, l[j]? = some x → ys[j]? = some (.string x) := fun j x hx => by
   have hj : j < l.length := (List.getElem?_eq_some_iff.1 hx).1
   have hj1 : j < ys.length := by rw [hL.1]; simpa using hj
   have hj2 : j < Ss.length := by rw [hL.2.1]; simpa using hj
   have h1 := hL.2.2 j (sv x) ys[j] Ss[j] (by rw [List.getElem?_map, hx]; rfl) (List.getElem?_eq_getElem hj1) (List.getElem?_eq_getElem hj2)
   rw [List.getElem?_eq_getElem hj1]
   generalize ys[j] = z at *
   generalize Ss[j] = T at *
   cases h1
   rfl
  have hcell : ∀ (j : Nat) x, l[j]? = some x → V.cell (ad.add j) = some (.string x) := fun j x hx => hc j _ (hy j x hx)
  obtain ⟨x0, hx0⟩ : ∃ x0, l[0]? = some x0 := by
   cases l with
   | nil => exact absurd rfl hl
   | cons x l => exact ⟨x, rfl⟩
  have h0 := hcell 0 x0 hx0
  obtain ⟨b, o, sp⟩ := ad
  have hsp : sp = none := by
   cases sp with
   | none => rfl
   | some s => simp [View.cell, Addr.add] at h0
  subst hsp
  refine ⟨b, o, cap, by simp, by simpa using hcap, ?_, fun j x hx => ?_⟩
  ·unfold View.cell at h0
   split at h0
   ·cases h0
   ·cases hb : V b with
    | none =>
     have : V (Addr.add ⟨b, o, none⟩ 0).block = none := hb
     rw [this] at h0; cases h0
    | some cs => exact hm.lt hb
  ·have h1 := hm.cell (hcell j x hx)
   have e : Addr.add ⟨b, o, none⟩ j = ⟨b, o + j, none⟩ := by
    unfold Addr.add
    split
    ·rename_i h; subst h; rfl
    ·rfl
   rw [e] at h1
   exact h1
theorem a5t : Builder.Extra Tryd.prog Tryd.laysJoin_ren where
 sizeBuilder := by kernel_rfl
 liesBuilder := by kernel_rfl
 t5 := Tryd.underlying5
 a5 := Tryd.isAgg5
 z5 := Tryd.sizeOf5
 v5 := Tryd.zeroValue5
 infoByte := by kernel_rfl
 cellsByte := by kernel_rfl
 sizeByte := by kernel_rfl
 neB5 := by decide
def eQ (l : List ByteArray) (sep : ByteArray) : ByteArray := ⟨(Lib.join (l.map (·.data.toList)) sep.data.toList).toArray⟩
theorem a3A (l : List ByteArray) (sep : ByteArray) (h0 : l ≠ []) (hl : l.length ≤ 140737488355328) (hj : (eQ l sep).size ≤ 140737488355328) : FnC Tryd.prog 43 [.o (.d (.sl (l.map eH))), os sep] (os (eQ l sep)) := by
 refine ⟨Tryd.call43, fun V w vs htab hm hargs => ?_⟩
 obtain ⟨hn, hv⟩ := hargs
 match vs, hn with
 | [y, z], _ =>
  obtain ⟨rfl, _⟩ := aF (hv 1 (os sep) z rfl rfl)
  obtain ⟨S, hy⟩ := hv 0 (.o (.d (.sl (l.map eH)))) y rfl rfl
  obtain ⟨b, o, cap, rfl, hcap, hb, hcell⟩ := a3z hm hy h0
  have hsz : (Lib.join (l.map (·.data.toList)) sep.data.toList).length ≤ 281474976710656 := by
   have : (eQ l sep).size = (Lib.join (l.map (·.data.toList)) sep.data.toList).length := rfl
   omega
  refine (Any.strings_Join_48 Tryd.laysJoin a5t b o cap l sep w hcell hb hl hcap hsz).mono ?_
  rintro e w' ⟨rfl, hbel⟩
  exact ⟨_, rfl, Done.same rfl hm hbel⟩
def a6A (s : ByteArray) (c : UInt8) : Bool := s.data.toList.contains c
theorem yZ (s : ByteArray) (c : UInt8) : FnC Tryd.prog 60 [os s, os ⟨#[c]⟩] (ob (decide (0 ≤ Lib.indexByte s.data.toList c))) := by
 refine ⟨Tryd.call60, fun V w vs htab hm hargs => ?_⟩
 obtain ⟨hn, hv⟩ := hargs
 match vs, hn with
 | [y, z], _ =>
  obtain ⟨rfl, _⟩ := aF (hv 1 (os ⟨#[c]⟩) z rfl rfl)
  obtain ⟨rfl, _⟩ := aF (hv 0 (os s) y rfl rfl)
  refine (Any.strings_Contains_one Tryd.laysContains s c w).mono ?_
  rintro e w' ⟨rfl, rfl⟩
  exact ⟨_, rfl, Done.same rfl hm (Below.refl _ _)⟩
end Go.Proofs.YtgfngchfmohhbaaDoor
end
