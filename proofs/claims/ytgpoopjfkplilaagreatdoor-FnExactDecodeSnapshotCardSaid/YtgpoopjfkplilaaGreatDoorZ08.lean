/- Joined texts. -/
import Derived.Test.YtgpoopjfkplilaaGreatDoorZ01
import Derived.Test.YtgpoopjfkplilaaGreatDoorZ06
import Derived.Test.YtgpoopjfkplilaaGreatDoorZ07
import Derived.Lib.LaidTab
import Derived.Sort.Row
import Derived.Sort.Grow
import Derived.Shelf.RegionOpenPlain
import Derived.WalkKit
import Derived.Deep.LoopGhost
import Derived.Deep.Draws
import Derived.Lib.Walk
import Derived.Lib.SliceRun
import Derived.Shelf.SlicesE.Kit
import Derived.Shelf.SlicesE.DeleteFunc
set_option linter.all false
section
set_option maxRecDepth 100000
set_option maxHeartbeats 4000000
namespace Go.Proofs.YtgpoopjfkplilaaGreatDoor
open Go Go.Sx Go.RowKit Go.Proofs
theorem a0o : ((List.range 20).map fun i => Value.int .u64 ((10 ^ i : Nat) : Int)) = Lib.pow10Tab.map fun z => Value.int .u64 z := by
 unfold Lib.pow10Tab; rw [List.map_map]; rfl
theorem sW : Tryz.prog.globalNamed "internal/strconv.uint64pow10" = some 4 := by kernel_rfl
theorem b4m {w : World} {X : List Nat} (h : tabOK w X) : Lib.TabIs Tryz.prog w "internal/strconv.uint64pow10" .u64 Lib.pow10Tab := by
 obtain ⟨_, cs, ty, fz, h1, h2⟩ := h _ (List.mem_append_left a5Q (List.mem_cons_self ..))
 have h2 : cs = _ := h2
 subst h2
 unfold Lib.TabIs World.var?
 rw [sW, Option.bind_some, h1]
 simp only [a0o]
theorem b0T {w : World} (h : Lib.TabIs Tryz.prog w "internal/strconv.uint64pow10" .u64 Lib.pow10Tab) : ∀ t ∈ b3W, ∃ cs ty fz, w.heap[t.1]? = some (.cells cs ty fz) ∧ t.2 cs := by
 intro t ht
 obtain rfl := List.mem_singleton.1 ht
 unfold Lib.TabIs World.var? at h
 rw [sW, Option.bind_some] at h
 simp only [a0o]
 split at h
 ·rename_i cs ty fz e
  cases h
  exact ⟨_, ty, fz, e, rfl⟩
 ·cases h
def itoaB (n : Int) : ByteArray := ⟨(Lib.itoa n).toArray⟩
theorem b2L (n : Int) (hn : inR .i64 n) : FnC Tryz.prog 90 [oi n] (os (itoaB n)) := by
 refine ⟨Tryz.call90, fun V w vs htab hm hargs => ?_⟩
 obtain ⟨hl, hv⟩ := hargs
 match vs, hl with
 | [y], _ =>
  obtain ⟨rfl, _⟩ := aU (hv 0 (oi n) y rfl rfl)
  refine (Any.strconv_Itoa Tryz.laysItoa n hn.1 hn.2 w (b4m htab)).mono ?_
  rintro e w' ⟨rfl, k, ob', rfl⟩
  have hb : ∀ k' : Nat, k' < w.heap.size → (w.heap ++ ob')[k']? = w.heap[k']? := fun k' hk' => Array.getElem?_append_left hk'
  refine ⟨_, rfl, ⟨V, [], View.le.refl V, ?_, (fun b cs h1 h2 => by rw [h1] at h2; cases h2), ?_, List.nodup_nil, (fun b hb => by cases hb)⟩, ⟨rfl, rfl, rfl, ?_, hb⟩⟩
  ·intro b cs hbc
   obtain ⟨c, ty, fz, h1, h2⟩ := hm b cs hbc
   exact ⟨c, ty, fz, by rw [← h1]; exact hb b (Array.getElem?_eq_some_iff.1 h1).1, h2⟩
  ·refine ⟨[.string (itoaB n)], rfl, [[]], rfl, rfl, rfl, fun k a y s h1 h2 h3 => ?_⟩
   match k, h1, h2, h3 with
   | 0, rfl, rfl, rfl => exact ⟨rfl, [], .v _ rfl⟩
  ·show w.heap.size ≤ (w.heap ++ ob').size
   rw [Array.size_append]; omega
theorem fK (n : Int) (hn : inR .i64 n) : FnC Tryz.prog 49 [oi n] (os (itoaB n)) := by
 refine ent Tryz.func49 rfl Tryz.call49 rfl (fun C => ?_); simp only [go_sem, st0, Tryz.ntmps49]
 refine mH (b2L n hn) ?_
 exact aA ⟨⟨_, rfl, by simp only [go_sem]⟩, trivial⟩
theorem a3b (d : Int) (h0 : 0 ≤ d) (h9 : d < 10) : FnC Tryz.prog 121 [oi d] (.o (.d (.v (.int .u8 (48 + d))))) := by
 refine ent Tryz.func121 rfl Tryz.call121 rfl (fun C => ?_); simp only [go_sem, st0, Tryz.ntmps121]
 have g : decide (d < 10) = true := by simp [h9]
 have i1 : inR .i64 (48 + d) := by unfold inR; simp only; omega
 have i2 : inR .u8 (48 + d) := by unfold inR; simp only; omega
 have q0 := @g; have q1 := @i1; have q2 := @i2; refine kZ ?_
 exact aA ⟨⟨_, rfl, by simp only [go_sem]⟩, trivial⟩
def oN (u : Nat) : List UInt8 := if u = 0 then [] else Lib.decDigits u
theorem uK {u : Nat} (h : u ≠ 0) : oN u = oN (u / 10) ++ [UInt8.ofNat (48 + u % 10)] := by
 unfold oN
 rw [if_neg h, Lib.decDigits]
 by_cases h1 : u < 10
 ·have e1 : u / 10 = 0 := by omega
  have e2 : u % 10 = u := by omega
  rw [dif_pos h1, e1, if_pos rfl, e2]; rfl
 ·rw [dif_neg h1, if_neg (by omega)]
theorem xM : ∀ (k u : Nat), u < 10 ^ k → (oN u).length ≤ k
 | 0, u, h => by have : u = 0 := by simpa using h
                 subst this; simp [oN]
 | k + 1, u, h => by
  by_cases h0 : u = 0
  ·subst h0; simp [oN]
  ·rw [uK h0, List.length_append]
   have := xM k (u / 10) (by rw [Nat.pow_succ] at h; omega)
   simp; omega
theorem a3c {n : Int} (h : n ≠ 0) : Lib.itoa n = if n < 0 then 45 :: oN n.natAbs else oN n.natAbs := by
 unfold Lib.itoa oN
 have h1 : n.natAbs ≠ 0 := by omega
 rw [if_neg h1]
 split
 ·rfl
 ·have : n.toNat = n.natAbs := by omega
  rw [this]
theorem fM (n : Int) (hn : inR .i64 n) : FnC Tryz.prog 78 [oi n] (os (itoaB n)) := by
 refine ent Tryz.func78 rfl Tryz.call78 rfl (fun C => ?_); simp only [go_sem, st0, Tryz.ntmps78]
 have hn' := hn
 unfold inR at hn'
 simp only at hn'
 by_cases h0 : n = 0
 ·subst h0
  have g : decide ((0 : Int) = 0) = true := rfl
  have e : itoaB 0 = ⟨#[48]⟩ := by simp [itoaB, Lib.itoa, Lib.decDigits]
  have q0 := @g; refine oV ?_
  exact aA ⟨⟨_, rfl, by simp only [go_sem, e]⟩, trivial⟩
 have g : decide (n = 0) = false := by simp [h0]
 have q0 := @g; refine oV ?_
 have hL : (oN n.natAbs).length ≤ 19 := xM 19 _ (by omega)
 have key : ∀ s : ByteArray, s.data.toList = oN n.natAbs → (if n < 0 then (⟨#[45]⟩ : ByteArray) ++ s else s) = itoaB n := by
  intro s hs
  unfold itoaB
  rw [a3c h0, ← hs]
  split
  ·apply ByteArray.ext; apply Array.ext'; simp
  ·rfl
 refine bE (α := Int × ByteArray) (fun x => [(0, oi x.1), (4, os x.2)]) (fun _ => []) (fun x => inR .i64 x.1 ∧ oN x.1.natAbs ++ x.2.data.toList = oN n.natAbs) (fun x => x.1.natAbs) (n, ⟨#[]⟩) (fun _ => ?_) ?_ ?_ (fun x hx => ?_)
 ·simp only [go_sem]
 ·simp only [go_sem]; simp
 ·exact ⟨hn, by simp⟩
 ·obtain ⟨m, s⟩ := x
  obtain ⟨hm, hs⟩ := hx
  simp only at hm hs
  have hm' := hm
  unfold inR at hm'
  simp only at hm'
  have hsl : s.size ≤ 19 := by
   have := congrArg List.length hs
   rw [List.length_append] at this
   have e : s.size = s.data.toList.length := rfl
   omega
  simp only [go_sem]
  by_cases h1 : m = 0
  ·subst h1
   have g1 : decide ((0 : Int) = 0) = true := rfl
   have hs' : s.data.toList = oN n.natAbs := by simpa [oN] using hs
   have hk := key s hs'
   by_cases h2 : n < 0
   ·have g2 : decide (n < 0) = true := by simp [h2]
    rw [if_pos h2] at hk
    have i1 : (⟨#[45]⟩ : ByteArray).size + s.size ≤ maxLen := by unfold maxLen; have : (⟨#[45]⟩ : ByteArray).size = 1 := rfl; omega
    have q0 := @g1; have q1 := @g2; have q2 := @i1; have q3 := @Bool.not_true; refine jJ ?_
    exact aA ⟨⟨_, rfl, by simp only [go_sem, hk]⟩, trivial⟩
   ·have g2 : decide (n < 0) = false := by simp [h2]
    rw [if_neg h2] at hk
    have q0 := @g1; have q1 := @g2; have q2 := @Bool.not_true; refine kZ ?_
    exact aA ⟨⟨_, rfl, by simp only [go_sem, hk]⟩, trivial⟩
  have g1 : decide (m = 0) = false := by simp [h1]
  have hu : m.natAbs ≠ 0 := by omega
  have q1 : (m.tdiv 10).natAbs = m.natAbs / 10 := by rw [Int.natAbs_tdiv]; rfl
  have q2 : (m.tmod 10).natAbs = m.natAbs % 10 := by rw [Int.natAbs_tmod]; rfl
  have i1 : inR .i64 (m.tdiv 10) := by unfold inR; simp only; omega
  have i3 : inR .i64 (0 - m.tmod 10) := by unfold inR; simp only; omega
  have hstep : ∀ d : Int, d = ((m.natAbs % 10 : Nat) : Int) → oN (m.tdiv 10).natAbs ++ (lY [48 + d] ++ s).data.toList = oN n.natAbs := by
   intro d hd
   rw [← hs, uK hu, q1, hd]
   have e : (48 + ((m.natAbs % 10 : Nat) : Int)).toNat = 48 + m.natAbs % 10 := by omega
   have e2 : (lY [48 + ((m.natAbs % 10 : Nat) : Int)] ++ s).data.toList = UInt8.ofNat (48 + m.natAbs % 10) :: s.data.toList := by
    unfold lY
    rw [List.map_cons, List.map_nil, e]
    generalize UInt8.ofNat (48 + m.natAbs % 10) = z
    simp
   rw [e2, List.append_assoc]; rfl
  have i4 : ∀ d : Int, (lY [48 + d]).size + s.size ≤ maxLen := fun d => by
   have : (lY [48 + d]).size = 1 := rfl
   unfold maxLen; omega
  by_cases h3 : m.tmod 10 < 0
  ·have g3 : decide (m.tmod 10 < 0) = true := by simp [h3]
   have q0 := @g1; have q1 := @g3; have q2 := @i1; have q3 := @i3; have q4 := @i4; have q5 := @Bool.not_false; refine sK (a3b (0 - m.tmod 10) (by omega) (by omega)) ?_
   refine aH (m.tdiv 10, lY [48 + (0 - m.tmod 10)] ++ s) ?_ ?_ ?_
   ·simp only [go_sem]; try simp
   ·exact ⟨i1, hstep _ (by omega)⟩
   ·simp only; omega
  ·have g3 : decide (m.tmod 10 < 0) = false := by simp [h3]
   have q0 := @g1; have q1 := @g3; have q2 := @i1; have q3 := @i3; have q4 := @i4; have q5 := @Bool.not_false; refine sK (a3b (m.tmod 10) (by omega) (by omega)) ?_
   refine aH (m.tdiv 10, lY [48 + m.tmod 10] ++ s) ?_ ?_ ?_
   ·simp only [go_sem]; try simp
   ·exact ⟨i1, hstep _ (by omega)⟩
   ·simp only; omega
def eT (v : TValue) : ByteArray := if cB v then (if v.fKind = 1 then itoaB v.fInt else if v.fKind = 2 then v.fStr else ⟨#[45]⟩) else ⟨#[63]⟩
theorem jQ (v : TValue) (hs : v.fStr.size ≤ 4300000) (hi : inR .i64 v.fInt) : FnC Tryz.prog 91 [kN v] (os (eT v)) := by
 refine ent Tryz.func91 rfl Tryz.call91 rfl (fun C => ?_); simp only [go_sem, st0, Tryz.ntmps91]
 cases h0 : cB v
 ·have q0 := @h0; refine kM (aC v hs) ?_
  exact aA ⟨⟨_, rfl, by simp only [go_sem, eT, h0, if_false, Bool.false_eq_true]⟩, trivial⟩
 by_cases h1 : v.fKind = 1
 ·have d1 : decide (v.fKind = 1) = true := by simp [h1]
  have q0 := @h0; have q1 := @d1; refine a2I (aC v hs) (fK v.fInt hi) ?_
  exact aA ⟨⟨_, rfl, by simp only [go_sem, eT, h0, h1, if_true]⟩, trivial⟩
 have d1 : decide (v.fKind = 1) = false := by simp [h1]
 by_cases h2 : v.fKind = 2
 ·have d2 : decide (v.fKind = 2) = true := by simp [h2]
  have q0 := @h0; have q1 := @d1; have q2 := @d2; refine jT (aC v hs) ?_
  exact aA ⟨⟨_, rfl, by simp only [go_sem, eT, h0, h1, h2, if_true, if_false]⟩, trivial⟩
 ·have d2 : decide (v.fKind = 2) = false := by simp [h2]
  have q0 := @h0; have q1 := @d1; have q2 := @d2; refine jT (aC v hs) ?_
  exact aA ⟨⟨_, rfl, by simp only [go_sem, eT, h0, h1, h2, if_true, if_false]⟩, trivial⟩
theorem fP (v : TValue) (hs : v.fStr.size ≤ 4300000) (hi : inR .i64 v.fInt) : FnC Tryz.prog 159 [kN v] (os (eT v)) := by
 refine ent Tryz.func159 rfl Tryz.call159 rfl (fun C => ?_); simp only [go_sem, st0, Tryz.ntmps159]
 cases h0 : cB v
 ·have q0 := @h0; refine kM (aK v hs) ?_
  exact aA ⟨⟨_, rfl, by simp only [go_sem, eT, h0, if_false, Bool.false_eq_true]⟩, trivial⟩
 by_cases h1 : v.fKind = 1
 ·have d1 : decide (v.fKind = 1) = true := by simp [h1]
  have q0 := @h0; have q1 := @d1; refine a2I (aK v hs) (fM v.fInt hi) ?_
  exact aA ⟨⟨_, rfl, by simp only [go_sem, eT, h0, h1, if_true]⟩, trivial⟩
 have d1 : decide (v.fKind = 1) = false := by simp [h1]
 by_cases h2 : v.fKind = 2
 ·have d2 : decide (v.fKind = 2) = true := by simp [h2]
  have q0 := @h0; have q1 := @d1; have q2 := @d2; refine jT (aK v hs) ?_
  exact aA ⟨⟨_, rfl, by simp only [go_sem, eT, h0, h1, h2, if_true, if_false]⟩, trivial⟩
 ·have d2 : decide (v.fKind = 2) = false := by simp [h2]
  have q0 := @h0; have q1 := @d1; have q2 := @d2; refine jT (aK v hs) ?_
  exact aA ⟨⟨_, rfl, by simp only [go_sem, eT, h0, h1, h2, if_true, if_false]⟩, trivial⟩
end Go.Proofs.YtgpoopjfkplilaaGreatDoor
end
section
section
set_option linter.all false
namespace Go.Sx
open Go Go.RowKit
def vB {α : Type} (e : α → Value) (l : List α) : List (List D) := l.map fun x => [.v (e x)]
theorem jY {α : Type} (e : α → Value) (l : List α) : (vB e l).flatten = l.map fun x => D.v (e x) := by
 induction l with
 | nil => rfl
 | cons x l ih => simp only [vB, List.map_cons, List.flatten_cons] at ih ⊢; rw [ih]; rfl
theorem scal_down {α : Type} [Inhabited α] {e : α → Value} {V : View} {w : World} {ty : Nat} {l : List α} {y : Value} {S : List Nat} (h : RowR V w ty 1 (vB e l) y S) :
    ((∃ ao, y = .slice ao 0 0) ∧ l = [] ∧ S = []) ∨ ∃ b cap c, y = .slice (some ⟨b, 0, none⟩) l.length cap ∧ l.length ≤ cap ∧ cap ≤ maxLen ∧ w.heap[b]? = some (.cells c ty (0, 0)) ∧ c.size = cap ∧ Sort.Holds e w b 0 l.toArray ∧ V b = none ∧ S = [b] := by
 obtain ⟨h0, ys, Ss, h1, h3⟩ := h
 rcases h3 with ⟨ha, hb, hc⟩ | ⟨b, cap, c, rfl, e3, e4, e5, e6, e7, e8, rfl⟩
 ·exact .inl ⟨ha, by simpa [vB] using hb, hc⟩
 ·have key : ∀ j (hj : j < l.length), ys[j]? = some (e l[j]) ∧ Ss[j]? = some [] := fun j hj => by
   have hd : (vB e l).flatten[j]? = some (.v (e l[j])) := by rw [jY]; simp [hj]
   have hlt : j < ys.length := by rw [h1.1]; exact (List.getElem?_eq_some_iff.1 hd).1
   have hls : j < Ss.length := by rw [h1.2.1]; exact (List.getElem?_eq_some_iff.1 hd).1
   have hl := h1.2.2 j _ _ _ hd (List.getElem?_eq_getElem hlt) (List.getElem?_eq_getElem hls)
   rw [List.getElem?_eq_getElem hlt, List.getElem?_eq_getElem hls]
   generalize ys[j] = z at hl ⊢
   generalize Ss[j] = s at hl ⊢
   cases hl
   exact ⟨rfl, rfl⟩
  have hlen : Ss.length = l.length := by rw [h1.2.1, jY, List.length_map]
  refine .inr ⟨b, cap, c, by simp [vB], by simpa [vB] using e3, e4, e5, by simpa using e6, fun j hj => ?_, e8, ?_⟩
  ·have hj' : j < l.length := by simpa using hj
   have hy := fT e7 (key j hj').1
   refine ⟨?_, by simp [World.frozen?, e5]⟩
   simp only [World.cell?, e5, Nat.zero_add]
   simp only [Option.isSome_none, Bool.false_eq_true, if_false]
   rw [← Array.getElem?_toList, hy]
   congr 1
   rw [getElem!_pos l.toArray j (by simpa using hj')]
   simp
  ·congr 1
   refine List.flatten_eq_nil_iff.2 fun s hs => ?_
   obtain ⟨j, hj, rfl⟩ := List.mem_iff_getElem.1 hs
   have := (key j (by omega)).2
   rw [List.getElem?_eq_getElem hj] at this
   exact Option.some.inj this
theorem a8M {α : Type} [Inhabited α] {e : α → Value} (hs : ∀ x, scalar (e x) = true) {V : View} {w w' : World} {b ty cap n : Nat} {c : Array Value} {d : Array α} {l : List α} {os : Array Obj} (hb : w.heap[b]? = some (.cells c ty (0, 0)))
    (hc : c.size = cap) (hcap : cap ≤ maxLen) (hd : d.size ≤ cap) (hw : w' = Sort.grow (Sort.putRow e (Sort.ahead w n) b 0 d) os) (hl : l <+: d.toList) (hV : V b = none) :
    RowR V w' ty 1 (vB e l) (.slice (some ⟨b, 0, none⟩) l.length cap) [b] ∧ w.grownBy w' (some b) := by
 have hlt : b < w.heap.size := (Array.getElem?_eq_some_iff.1 hb).1
 have hle : l.length ≤ d.size := by have := hl.length_le; simpa using this
 have hheap : w'.heap[b]? = some (.cells (Sort.putCells e 0 d c) ty (0, 0)) := by
  subst hw
  rw [Sort.heap_grow_old _ _ (by simp [Sort.putRow, Sort.mapBlock, Sort.ahead]; exact hlt)]
  simp only [Sort.putRow, Sort.mapBlock, Sort.ahead, Array.getElem?_modify, if_true, hb, Option.map_some, Sort.onCells]
 refine ⟨⟨fun r hr => ?_, l.map e, List.replicate l.length [], ⟨by rw [jY]; simp, by rw [jY]; simp, fun k dd y s h1 h2 h3 => ?_⟩, .inr ⟨b, cap, _, by simp [vB], by simp [vB]; omega, hcap, hheap, by simp [Sort.putCells, hc], ?_, hV, ?_⟩⟩, ?_⟩
 ·obtain ⟨x, _, rfl⟩ := List.mem_map.1 hr; rfl
 ·rw [jY, List.getElem?_map] at h1
  rw [List.getElem?_map] at h2
  cases hk : l[k]? with
  | none => rw [hk] at h1; cases h1
  | some x =>
   rw [hk] at h1 h2
   cases h1; cases h2
   rw [List.getElem?_replicate] at h3
   split at h3
   ·cases h3; exact .v _ (hs x)
   ·cases h3
 ·refine List.prefix_iff_eq_take.2 ?_
  apply List.ext_getElem?
  intro j
  rw [List.getElem?_take, List.getElem?_map]
  simp only [List.length_map]
  by_cases hj : j < l.length
  ·have hjc : j < c.size := by omega
   have hdj : d.toList[j]? = some l[j] := fT hl (List.getElem?_eq_getElem hj)
   rw [Array.getElem?_toList, Array.getElem?_eq_getElem (by omega)] at hdj
   have h1 : (Sort.putCells e 0 d c).toList[j]? = some (e l[j]) := by
    rw [Array.getElem?_toList]
    simp only [Sort.putCells, Array.getElem?_mapIdx, Array.getElem?_eq_getElem hjc, Option.map_some]
    rw [if_pos (by omega), Nat.sub_zero, getElem!_pos d j (by omega), Option.some.inj hdj]
   rw [if_pos hj, h1, List.getElem?_eq_getElem hj]; rfl
  ·rw [if_neg hj, List.getElem?_eq_none (by omega)]; rfl
 ·simp
 ·subst hw
  refine ⟨rfl, rfl, rfl, by simp [Sort.putRow, Sort.mapBlock, Sort.ahead], fun k hk hne => ?_⟩
  rw [Sort.heap_grow_old _ _ (by simp [Sort.putRow, Sort.mapBlock, Sort.ahead]; exact hk)]
  simp only [Sort.putRow, Sort.mapBlock, Sort.ahead, Array.getElem?_modify]
  rw [if_neg (fun e => hne (by rw [e]))]
end Go.Sx
end
section
set_option linter.all false
namespace Go.Sx
open Go Go.RowKit
structure RowAt (w wr : World) (b ty N : Nat) (F : List Value) : Prop where
 cells : ∃ c : Array Value, wr.heap[b]? = some (.cells c ty (0, 0)) ∧ c.size = N ∧ F <+: c.toList
 grown : w.grownBy wr (some b)
theorem vP {w w1 w2 : World} {r : Option Nat} (h1 : w.grownBy w1 r) (h2 : w1.grownBy w2 r) : w.grownBy w2 r :=
 ⟨h2.os.trans h1.os, h2.tape.trans h1.tape, h2.output.trans h1.output, Nat.le_trans h1.size h2.size, fun k hk hn => (h2.block k (Nat.lt_of_lt_of_le hk h1.size) hn).trans (h1.block k hk hn)⟩
theorem a2J {w w' : World} (r : Option Nat) (h : Below w.heap.size w w') : w.grownBy w' r := ⟨h.os, h.tape, h.output, h.size, fun k hk _ => h.block k hk⟩
variable {w wr : World} {b ty N : Nat} {F : List Value}
theorem RowAt.lt (h : RowAt w wr b ty N F) : b < wr.heap.size := by
 obtain ⟨c, h1, _⟩ := h.cells
 exact (Array.getElem?_eq_some_iff.1 h1).1
theorem RowAt.le (h : RowAt w wr b ty N F) : F.length ≤ N := by
 obtain ⟨c, _, h2, h3⟩ := h.cells
 have := h3.length_le
 simpa [h2] using this
theorem RowAt.cell (h : RowAt w wr b ty N F) {t : Nat} {v : Value} (ht : F[t]? = some v) : wr.cell? ⟨b, t, none⟩ = some v := by
 obtain ⟨c, h1, h2, h3⟩ := h.cells
 have := fT h3 ht
 simp only [World.cell?, h1, Option.isSome_none, Bool.false_eq_true, if_false]
 rw [← Array.getElem?_toList]; exact this
theorem RowAt.there (h : RowAt w wr b ty N F) {t : Nat} (ht : t < N) : (wr.cell? ⟨b, t, none⟩).isSome = true := by
 obtain ⟨c, h1, h2, h3⟩ := h.cells
 simp only [World.cell?, h1, Option.isSome_none, Bool.false_eq_true, if_false]
 simp [h2, ht]
theorem RowAt.frozen (h : RowAt w wr b ty N F) (t : Nat) : wr.frozen? ⟨b, t, none⟩ = false := by
 obtain ⟨c, h1, _⟩ := h.cells
 simp [World.frozen?, h1]
theorem RowAt.behind (h : RowAt w wr b ty N F) {w' : World} (hb : Below wr.heap.size wr w') : RowAt w w' b ty N F := by
 obtain ⟨c, h1, h2, h3⟩ := h.cells
 exact ⟨⟨c, by rw [hb.block b h.lt]; exact h1, h2, h3⟩, vP h.grown (a2J _ hb)⟩
theorem a2K (F : List Value) (s : Nat) (v : Value) (c : List Value) (hF : F <+: c) (hs : s ≤ F.length) (hc : s < c.length) : F.take s ++ v :: F.drop (s + 1) <+: c.set s v := by
 obtain ⟨r, rfl⟩ := hF
 rcases Nat.lt_or_ge s F.length with h | h
 ·refine ⟨r, ?_⟩
  rw [List.set_append_left _ _ h, List.set_eq_take_append_cons_drop, if_pos h]
 ·have e : s = F.length := by omega
  subst e
  rw [List.take_of_length_le (Nat.le_refl _), List.drop_of_length_le (by omega), List.set_append_right _ _ (Nat.le_refl _), Nat.sub_self]
  cases r with
  | nil => simp at hc
  | cons x r => exact ⟨r, by simp⟩
theorem RowAt.set1 (h : RowAt w wr b ty N F) {s : Nat} (hs : s ≤ F.length) (hN : s < N) (v : Value) : RowAt w (wr.setCell ⟨b, s, none⟩ v) b ty N (F.take s ++ v :: F.drop (s + 1)) := by
 obtain ⟨c, h1, h2, h3⟩ := h.cells
 rw [Sort.setCell_eq]
 refine ⟨⟨c.setIfInBounds s v, ?_, by simp [h2], ?_⟩, vP h.grown ⟨rfl, rfl, rfl, by simp [Sort.mapBlock], fun k hk hne => ?_⟩⟩
 ·simp only [Sort.mapBlock, Array.getElem?_modify, if_true, h1, Option.map_some, Sort.onCells]
 ·rw [Array.toList_setIfInBounds]
  exact a2K F s v c.toList h3 hs (by simpa [h2] using hN)
 ·simp only [Sort.mapBlock, Array.getElem?_modify]
  rw [if_neg (fun e => hne (by rw [e]))]
theorem RowAt.set : ∀ (vs : List Value) {wr : World} {F : List Value} {s : Nat}, RowAt w wr b ty N F → s ≤ F.length → s + vs.length ≤ N → RowAt w (wr.setCells b s vs) b ty N (F.take s ++ vs ++ F.drop (s + vs.length))
 | [], wr, F, s, h, hs, hN => by simpa [World.setCells] using h
 | v :: vs, wr, F, s, h, hs, hN => by
  simp only [List.length_cons] at hN
  have h1 := h.set1 hs (by omega) v
  have h2 := RowAt.set vs (s := s + 1) h1 (by simp; omega) (by omega)
  rw [World.setCells]
  have e1 : (F.take s ++ v :: F.drop (s + 1)).take (s + 1) = F.take s ++ [v] := by
   rw [List.take_append, List.take_of_length_le (by simp; omega), List.length_take, Nat.min_eq_left hs, Nat.add_sub_cancel_left]; rfl
  have e2 : (F.take s ++ v :: F.drop (s + 1)).drop (s + 1 + vs.length) = F.drop (s + (vs.length + 1)) := by
   rw [List.drop_append, List.drop_of_length_le (by simp; omega), List.length_take, Nat.min_eq_left hs, List.nil_append, show s + 1 + vs.length - s = vs.length + 1 by omega, List.drop_succ_cons, List.drop_drop]
   congr 1; omega
  rw [e1, e2] at h2
  simpa [List.append_assoc] using h2
end Go.Sx
end
section
set_option linter.all false
namespace Go.Proofs.YtgpoopjfkplilaaGreatDoor
open Go Go.Sx Go.RowKit Go.Proofs Go.Lib
structure DelInv {α : Type} (e : α → Value) (p : α → Bool) (xs : List α) (i j : Nat) (F : List Value) : Prop where
 len : F.length = xs.length
 ij : i < j
 jn : j ≤ xs.length
 lo : F.take i = ((xs.take j).filter fun x => !p x).map e
 hi : F.drop j = (xs.drop j).map e
 il : i = ((xs.take j).filter fun x => !p x).length
theorem vC {α : Type} (p : α → Bool) (xs : List α) (k : Nat) (h : ∀ j (hj : j < xs.length), j < k → p xs[j] = false) : (xs.take k).filter (fun x => !p x) = xs.take k := by
 refine List.filter_eq_self.2 fun x hx => ?_
 obtain ⟨j, hj, rfl⟩ := List.mem_iff_getElem.1 hx
 simp only [List.length_take] at hj
 rw [List.getElem_take, h j (by omega) (by omega)]; rfl
theorem DelInv.at {α : Type} {e : α → Value} {p : α → Bool} {xs : List α} {i j : Nat} {F : List Value} (h : DelInv e p xs i j F) (hj : j < xs.length) : F[j]? = some (e xs[j]) := by
 have h0 : (F.drop j)[0]? = ((xs.drop j).map e)[0]? := by rw [h.hi]
 rw [List.getElem?_drop, Nat.add_zero] at h0
 rw [h0, List.getElem?_map, List.getElem?_drop, Nat.add_zero, List.getElem?_eq_getElem hj]; rfl
theorem DelInv.start {α : Type} {e : α → Value} {p : α → Bool} {xs : List α} {k : Nat} (hk : k < xs.length) (h : ∀ j (hj : j < xs.length), j < k → p xs[j] = false) (hp : p xs[k] = true) : DelInv e p xs k (k + 1) (xs.map e) := by
 have e1 : (xs.take (k + 1)).filter (fun x => !p x) = xs.take k := by
  rw [List.take_succ_eq_append_getElem hk, List.filter_append, vC p xs k h]
  simp [hp]
 refine ⟨by simp, by omega, by omega, ?_, by simp, ?_⟩
 ·rw [e1, List.map_take]
 ·rw [e1]; simp; omega
theorem DelInv.keep {α : Type} {e : α → Value} {p : α → Bool} {xs : List α} {i j : Nat} {F : List Value} (h : DelInv e p xs i j F) (hj : j < xs.length) (hp : p xs[j] = false) : DelInv e p xs (i + 1) (j + 1) (F.take i ++ [e xs[j]] ++ F.drop (i + 1)) := by
 have e1 : (xs.take (j + 1)).filter (fun x => !p x) = (xs.take j).filter (fun x => !p x) ++ [xs[j]] := by
  rw [List.take_succ_eq_append_getElem hj, List.filter_append]
  simp [hp]
 have hl := h.len
 have hij := h.ij
 refine ⟨by simp; omega, by omega, by omega, ?_, ?_, ?_⟩
 ·rw [List.take_append_of_le_length (by simp; omega), List.take_of_length_le (by simp; omega), e1, List.map_append, h.lo]; rfl
 ·rw [List.drop_append, List.drop_of_length_le (by simp; omega), List.nil_append, List.drop_drop]
  have : F.drop (j + 1) = (xs.drop (j + 1)).map e := by rw [← List.drop_drop, h.hi, ← List.map_drop, List.drop_drop]
  rw [← this]
  congr 1
  simp; omega
 ·rw [e1, List.length_append, ← h.il]; rfl
theorem DelInv.skip {α : Type} {e : α → Value} {p : α → Bool} {xs : List α} {i j : Nat} {F : List Value} (h : DelInv e p xs i j F) (hj : j < xs.length) (hp : p xs[j] = true) : DelInv e p xs i (j + 1) F := by
 have e1 : (xs.take (j + 1)).filter (fun x => !p x) = (xs.take j).filter (fun x => !p x) := by
  rw [List.take_succ_eq_append_getElem hj, List.filter_append]
  simp [hp]
 have hij := h.ij
 exact ⟨h.len, by omega, by omega, by rw [e1]; exact h.lo, by rw [← List.drop_drop, h.hi, ← List.map_drop, List.drop_drop], by rw [e1]; exact h.il⟩
end Go.Proofs.YtgpoopjfkplilaaGreatDoor
end
section
set_option linter.all false
set_option maxRecDepth 100000
namespace Go.Sx
open Go Go.RowKit
theorem RowAt.mod {V : View} {w W : World} {b ty N : Nat} {F : List Value} (hm : Mod V w) (hV : V b = none) (h : RowAt w W b ty N F) : Mod V W := fun k cs hk => by
 obtain ⟨c, t, fz, e1, e2⟩ := hm k cs hk
 exact ⟨c, t, fz, by rw [h.grown.block k (Array.getElem?_eq_some_iff.1 e1).1 (fun e => by cases e; rw [hV] at hk; cases hk)]; exact e1, e2⟩
def b7C (V : View) (b : Nat) (cs : List Value) : View := fun k => if k = b then some cs else V k
theorem RowAt.row {α : Type} {e : α → Value} (hs : ∀ x, scalar (e x) = true) {V : View} {w w' : World} {ty b cap : Nat} {l : List α} {G : List Value} (h : RowAt w w' b ty cap (l.map e ++ G)) (hcap : cap ≤ maxLen) (hV : V b = none) : RowR V w' ty 1 (vB e l) (.slice (some ⟨b, 0, none⟩) l.length cap) [b] := by
 have hle := h.le
 rw [List.length_append, List.length_map] at hle
 obtain ⟨c, h1, h2, h3⟩ := h.cells
 refine ⟨fun r hr => ?_, l.map e, List.replicate l.length [], ⟨by rw [jY]; simp, by rw [jY]; simp, fun k dd y s q1 q2 q3 => ?_⟩, .inr ⟨b, cap, c, by simp [vB], by simp [vB]; omega, hcap, h1, by simp [h2], (List.prefix_append _ _).trans h3, hV, by simp⟩⟩
 ·obtain ⟨x, _, rfl⟩ := List.mem_map.1 hr; rfl
 ·rw [jY, List.getElem?_map] at q1
  rw [List.getElem?_map] at q2
  cases hk : l[k]? with
  | none => rw [hk] at q1; cases q1
  | some x =>
   rw [hk] at q1 q2
   cases q1; cases q2
   rw [List.getElem?_replicate] at q3
   split at q3
   ·cases q3; exact .v _ (hs x)
   ·cases q3
end Go.Sx
end
section
set_option linter.all false
set_option maxRecDepth 100000
set_option maxHeartbeats 4000000
namespace Go.Proofs.YtgpoopjfkplilaaGreatDoor
open Go Go.Sx Go.RowKit Go.Proofs
def wR {α : Type} (p : α → Bool) : List α → Nat → Int
 | [], _ => -1
 | x :: xs, k => if p x then k else wR p xs (k + 1)
end Go.Proofs.YtgpoopjfkplilaaGreatDoor
end
end
section
namespace Go.Proofs.YtgpoopjfkplilaaGreatDoor
open Go Go.Sx Go.RowKit Go.Proofs
theorem b6e {α : Type} (l : List α) : (l.all fun _ => true) = true := by simp
def iU {α : Type} (p : α → Bool) : List α → Nat
 | [] => 0
 | x :: l => if p x then 0 else iU p l + 1
theorem a1Z {α : Type} (p : α → Bool) : ∀ l : List α, iU p l ≤ l.length
 | [] => by simp [iU]
 | x :: l => by
  have := a1Z p l
  unfold iU
  split <;> simp <;> omega
theorem idxP_fst {α : Type} (p : α → Bool) : ∀ (l : List α) (k : Nat), (wR p l k < 0 ∧ wR p l k = -1 ∧ iU p l = l.length) ∨ (wR p l k = ((k + iU p l : Nat) : Int) ∧ iU p l < l.length)
 | [], k => .inl ⟨by simp [wR], rfl, rfl⟩
 | x :: l, k => by
  unfold wR iU
  cases hx : p x with
  | true => exact .inr ⟨by simp, by simp⟩
  | false =>
   rcases idxP_fst p l (k + 1) with ⟨h0, h1, h2⟩ | ⟨h1, h2⟩
   ·exact .inl ⟨by simpa using h0, by simpa using h1, by simp [h2]⟩
   ·exact .inr ⟨by simp only [Bool.false_eq_true, if_false]; rw [h1]; congr 1; omega, by simp; omega⟩
theorem a7T {α : Type} (p : α → Bool) (l : List α) (k : Nat) (h : k < l.length) : iU p (l.drop k) = if p l[k] then 0 else iU p (l.drop (k + 1)) + 1 := by
 rw [List.drop_eq_getElem_cons h, iU]
def a0y {α : Type} (i : Nat) (x : α) (l : List α) : List α := l.take i ++ x :: l.drop i
theorem b0p {α : Type} (i : Nat) (x : α) (l : List α) (h : i ≤ l.length) : (a0y i x l).length = l.length + 1 := by simp [a0y]; omega
end Go.Proofs.YtgpoopjfkplilaaGreatDoor
end
section
set_option maxRecDepth 100000
set_option maxHeartbeats 4000000
namespace Go.Proofs.YtgpoopjfkplilaaGreatDoor
open Go Go.Sx Go.RowKit Go.Proofs
theorem a6i (l : List ByteArray) (hl : l.length ≤ 4300000) : FnC Tryz.prog 263 [.o (.d (.sl (l.map bD)))] (.o (.w 9 1 (l.map bD))) := by
 refine ent Tryz.func263 rfl Tryz.call263 rfl (fun C => ?_); simp only [go_sem, st0, Tryz.ntmps263]
 refine aJ ?_
 intro b hb
 refine aJ ?_
 refine cnd rfl (fun h1 => ?_) (fun h1 => ?_)
 ·have e := hb h1
  simp only [List.map_eq_nil_iff] at e
  subst e
  refine aJ ?_
  exact aA ⟨⟨_, rfl, by simp only [go_sem]⟩, trivial⟩
 ·refine aJ ?_
  exact aA ⟨⟨_, rfl, by simp only [go_sem, b6e]⟩, trivial⟩
theorem Done.same {V : View} {w w' : World} {x : Value} (hs : scalar x = true) (hm : Mod V w) (hb : Below w.heap.size w w') : Done V w (.o (.d (.v x))) x w' := by
 refine ⟨⟨V, [], View.le.refl V, ?_, (fun b cs h1 h2 => by rw [h1] at h2; cases h2), ?_, List.nodup_nil, (fun b hb => by cases hb)⟩, hb⟩
 ·intro b cs hbc
  obtain ⟨c, ty, fz, h1, h2⟩ := hm b cs hbc
  exact ⟨c, ty, fz, by rw [← h1]; exact hb.block b (Array.getElem?_eq_some_iff.1 h1).1, h2⟩
 ·refine ⟨[x], rfl, [[]], rfl, rfl, rfl, fun k a y s h1 h2 h3 => ?_⟩
  match k, h1, h2, h3 with
  | 0, rfl, rfl, rfl => exact ⟨rfl, [], .v _ hs⟩
theorem a3a (l : List ByteArray) : (l.map bD).flatten = l.map fun s => (sv s : D) := by
 induction l with
 | nil => rfl
 | cons x l ih => rw [List.map_cons, List.flatten_cons, ih]; rfl
theorem b2K {V : View} {w : World} {l : List ByteArray} {y : Value} {S : List Nat} (hm : Mod V w) (h : Lay V (.sl (l.map bD)) y S) (hl : l ≠ []) :
    ∃ b o cap, y = .slice (some ⟨b, o, none⟩) l.length cap ∧ l.length ≤ cap ∧ b < w.heap.size ∧ ∀ (j : Nat) x, l[j]? = some x → w.cell? ⟨b, o + j, none⟩ = some (.string x) := by
 rcases lay_sl_inv h with ⟨_, h2⟩ | ⟨ad, cap, sz, ys, Ss, rfl, hsz, hcap, hmax, hL, hc, _⟩
 ·exact absurd (List.map_eq_nil_iff.1 h2) hl
 ·rw [a3a] at hL
  have hy : ∀ (j : Nat) x, l[j]? = some x → ys[j]? = some (.string x) := fun j x hx => by
   have hj : j < l.length := (List.getElem?_eq_some_iff.1 hx).1
   have hj1 : j < ys.length := by rw [hL.1]; simpa using hj
   have hj2 : j < Ss.length := by rw [hL.2.1]; simpa using hj
   have h1 := hL.2.2 j (sv x) ys[j] Ss[j] (by rw [List.getElem?_map, hx]; rfl) (List.getElem?_eq_getElem hj1) (List.getElem?_eq_getElem hj2)
   rw [List.getElem?_eq_getElem hj1]
   generalize ys[j] = z at *
   generalize Ss[j] = T at *
   cases h1
   rfl
  have hcell : ∀ (j : Nat) x, l[j]? = some x → V.cell (ad.add j) = some (.string x) := fun j x hx => hc j _ (hy j x hx)
  obtain ⟨x0, hx0⟩ : ∃ x0, l[0]? = some x0 := by
   cases l with
   | nil => exact absurd rfl hl
   | cons x l => exact ⟨x, rfl⟩
  have h0 := hcell 0 x0 hx0
  obtain ⟨b, o, sp⟩ := ad
  have hsp : sp = none := by
   cases sp with
   | none => rfl
   | some s => simp [View.cell, Addr.add] at h0
  subst hsp
  refine ⟨b, o, cap, by simp, by simpa using hcap, ?_, fun j x hx => ?_⟩
  ·unfold View.cell at h0
   split at h0
   ·cases h0
   ·cases hb : V b with
    | none =>
     have : V (Addr.add ⟨b, o, none⟩ 0).block = none := hb
     rw [this] at h0; cases h0
    | some cs => exact hm.lt hb
  ·have h1 := hm.cell (hcell j x hx)
   have e : Addr.add ⟨b, o, none⟩ j = ⟨b, o + j, none⟩ := by
    unfold Addr.add
    split
    ·rename_i h; subst h; rfl
    ·rfl
   rw [e] at h1
   exact h1
theorem b5z : Builder.Extra Tryz.prog Tryz.laysJoin_ren where
 sizeBuilder := by kernel_rfl
 liesBuilder := by kernel_rfl
 t5 := Tryz.underlying5
 a5 := Tryz.isAgg5
 z5 := Tryz.sizeOf5
 v5 := Tryz.zeroValue5
 infoByte := by kernel_rfl
 cellsByte := by kernel_rfl
 sizeByte := by kernel_rfl
 neB5 := by decide
def gW (l : List ByteArray) (sep : ByteArray) : ByteArray := ⟨(Lib.join (l.map (·.data.toList)) sep.data.toList).toArray⟩
theorem xL (l : List ByteArray) (sep : ByteArray) (h0 : l ≠ []) (hl : l.length ≤ 140737488355328) (hj : (gW l sep).size ≤ 140737488355328) : FnC Tryz.prog 92 [.o (.d (.sl (l.map bD))), os sep] (os (gW l sep)) := by
 refine ⟨Tryz.call92, fun V w vs htab hm hargs => ?_⟩
 obtain ⟨hn, hv⟩ := hargs
 match vs, hn with
 | [y, z], _ =>
  obtain ⟨rfl, _⟩ := aU (hv 1 (os sep) z rfl rfl)
  obtain ⟨S, hy⟩ := hv 0 (.o (.d (.sl (l.map bD)))) y rfl rfl
  obtain ⟨b, o, cap, rfl, hcap, hb, hcell⟩ := b2K hm hy h0
  have hsz : (Lib.join (l.map (·.data.toList)) sep.data.toList).length ≤ 281474976710656 := by
   have : (gW l sep).size = (Lib.join (l.map (·.data.toList)) sep.data.toList).length := rfl
   omega
  refine (Any.strings_Join_48 Tryz.laysJoin b5z b o cap l sep w hcell hb hl hcap hsz).mono ?_
  rintro e w' ⟨rfl, hbel⟩
  exact ⟨_, rfl, Done.same rfl hm hbel⟩
end Go.Proofs.YtgpoopjfkplilaaGreatDoor
end
