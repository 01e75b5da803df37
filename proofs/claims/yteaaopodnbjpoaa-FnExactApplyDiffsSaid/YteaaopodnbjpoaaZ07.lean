/- Joined texts. -/
import Derived.Test.YteaaopodnbjpoaaZ06
import Derived.Test.YteaaopodnbjpoaaZ05
import Derived.Ground.NamesProg
import Derived.Ground.Names2Prog
import Derived.Shelf.Sort.Plain
import Derived.Shelf.Slices.In.SortNone
import Derived.Shelf.Slices.CompactI
import Derived.Shelf.Slices.CompactS
import Derived.Test.YteaaopodnbjpoaaProg
import Derived.Sort.Walk0
set_option linter.all false
section
set_option maxRecDepth 100000
set_option maxHeartbeats 4000000
namespace Go.Proofs.Yteaaopodnbjpoaa
open Go Go.Sx Go.RowKit Go.Proofs
theorem uF (l : List TResult) (hl : wResultS l ≤ 4300000) : FnC Try.prog 20 [.o (.d (.sl (l.map aF)))] (.o (.w 43 2 (l.map aF))) := by
 unfold wResultS at hl
 refine ent Try.func20 rfl Try.call20 rfl (fun C => ?_); simp only [go_sem, st0, Try.ntmps20]
 refine aN ?_
 refine bP (α := Nat) (fun k => [(3, .o (.s 0)), (6, .o .u), (9, oi k)]) (fun k => [(0, .row 43 2 ((l.take k).map aF) true)]) (fun k => k ≤ l.length) (fun k => l.length - k) 0 (fun _ => ?_) ?_ ?_ (fun k hk => ?_)
 ·simp only [go_sem]
 ·simp only [go_sem]; simp
 ·simp
 ·simp only [go_sem]
  refine aN ?_
  refine cnd rfl (fun h1 => ?_) (fun h1 => ?_)
  ·simp only [decide_eq_true_eq, Int.ofNat_lt] at h1
   have hw := bW wResult l h1
   have hx : l[k].fIDs.length ≤ 67108864 := by
    have e : l[k].fIDs.length ≤ wResult l[k] := by unfold wResult; omega
    omega
   have ht := List.take_succ_eq_append_getElem h1
   have hn : (l.take k).length = k := by rw [List.length_take]; omega
   have qH := aI @h1 @hn; repeat' (with_reducible first | refine nY ?_ | (refine mX ?_; try simp only [go_sem, qH]) | refine kD ?_ | (apply rE [5,7,8,9] [9] [0,1,2,3,4] [0,1,2,3,4] ((.c 5 [6] [0,1,2,6] (.c 7 [] [0] (.c 8 [] [] (.c 9 [] [] .n .n) .n) .n) .n)) (by simp only [go_sem]; rfl) (by simp only [go_sem]; rfl) (by simp only [go_sem]; rfl) (by decide +kernel); (focus simp only [go_sem]; done)) | exact uI | refine nU (uX ?_) ?_ | refine nV (aX ?_) ?_ | refine nW (aX ?_) ?_ | exact nT | exact oH | exact uB | refine rD ?_ | refine cP (nC l[k].fIDs hx) ?_ | refine aO ?_ | fail)
   refine aY (k + 1) ?_ ?_ ?_
   ·simp only [go_sem, ht, List.map_append]; simp [aF]
   ·omega
   ·omega
  ·simp only [decide_eq_false_iff_not] at h1
   have e : k = l.length := by omega
   subst e
   refine aN ?_
   exact aA ⟨⟨_, rfl, by simp only [go_sem, List.take_length]⟩, trivial⟩
end Go.Proofs.Yteaaopodnbjpoaa
end
section
namespace Go.Proofs
open Go.Shelf
def Try.laysSortInt_ren : Go.Shelf.Ren := ⟨fun | 189 => 35 | 125 => 41 | 257 => 40 | 128 => 53 | 129 => 54 | 294 => 44 | 295 => 45 | 296 => 46 | 297 => 47 | 298 => 48 | 299 => 49 | 216 => 50 | 300 => 51 | 301 => 52 | 328 => 55 | 329 => 56 | 330 => 57 | 331 => 58 | 332 => 59 | 215 => 60 | 343 => 61 | n => n, fun | 28 => 37 | 3 => 3 | 46 => 65 | 0 => 0 | 51 => 77 | 53 => 79 | 4 => 4 | 183 => 69 | 182 => 68 | 131 => 74 | 5 => 5 | 9 => 9 | 218 => 80 | 222 => 84 | 228 => 86 | 229 => 87 | n => n, fun | n => n⟩
theorem Try.laysSortInt : Go.Proofs.Lays.n189 Try.prog Try.laysSortInt_ren := {
 mixed := by kernel_rfl
 f125 := Try.func41.trans (congrArg some (by kernel_rfl))
 f128 := Try.func53.trans (congrArg some (by kernel_rfl))
 f129 := Try.func54.trans (congrArg some (by kernel_rfl))
 f189 := Try.func35.trans (congrArg some (by kernel_rfl))
 f215 := Try.func60.trans (congrArg some (by kernel_rfl))
 f216 := Try.func50.trans (congrArg some (by kernel_rfl))
 f257 := Try.func40.trans (congrArg some (by kernel_rfl))
 f294 := Try.func44.trans (congrArg some (by kernel_rfl))
 f295 := Try.func45.trans (congrArg some (by kernel_rfl))
 f296 := Try.func46.trans (congrArg some (by kernel_rfl))
 f297 := Try.func47.trans (congrArg some (by kernel_rfl))
 f298 := Try.func48.trans (congrArg some (by kernel_rfl))
 f299 := Try.func49.trans (congrArg some (by kernel_rfl))
 f300 := Try.func51.trans (congrArg some (by kernel_rfl))
 f301 := Try.func52.trans (congrArg some (by kernel_rfl))
 f328 := Try.func55.trans (congrArg some (by kernel_rfl))
 f329 := Try.func56.trans (congrArg some (by kernel_rfl))
 f330 := Try.func57.trans (congrArg some (by kernel_rfl))
 f331 := Try.func58.trans (congrArg some (by kernel_rfl))
 f332 := Try.func59.trans (congrArg some (by kernel_rfl))
 f343 := Try.func61.trans (congrArg some (by kernel_rfl))
 t0 := Try.underlying0
 a0 := Try.isAgg0
 z0 := Try.sizeOf0
 v0 := Try.zeroValue0
 t3 := Try.underlying3
 a3 := Try.isAgg3
 z3 := Try.sizeOf3
 v3 := Try.zeroValue3
 t4 := Try.underlying4
 a4 := Try.isAgg4
 z4 := Try.sizeOf4
 v4 := Try.zeroValue4
 t5 := Try.underlying5
 a5 := Try.isAgg5
 z5 := Try.sizeOf5
 v5 := Try.zeroValue5
 t9 := Try.underlying9
 a9 := Try.isAgg9
 z9 := Try.sizeOf9
 v9 := Try.zeroValue9
 t28 := Try.underlying37
 a28 := Try.isAgg37
 z28 := Try.sizeOf37
 v28 := Try.zeroValue37
 t46 := Try.underlying65
 a46 := Try.isAgg65
 z46 := Try.sizeOf65
 v46 := Try.zeroValue65
 t51 := Try.underlying77
 a51 := Try.isAgg77
 z51 := Try.sizeOf77
 v51 := Try.zeroValue77
 t53 := Try.underlying79
 a53 := Try.isAgg79
 z53 := Try.sizeOf79
 v53 := Try.zeroValue79
 t131 := Try.underlying74
 a131 := Try.isAgg74
 z131 := Try.sizeOf74
 v131 := Try.zeroValue74
 t182 := Try.underlying68
 a182 := Try.isAgg68
 z182 := Try.sizeOf68
 v182 := Try.zeroValue68
 t183 := Try.underlying69
 a183 := Try.isAgg69
 z183 := Try.sizeOf69
 v183 := Try.zeroValue69
 t218 := Try.underlying80
 a218 := Try.isAgg80
 z218 := Try.sizeOf80
 v218 := Try.zeroValue80
 t222 := Try.underlying84
 a222 := Try.isAgg84
 z222 := Try.sizeOf84
 v222 := Try.zeroValue84
 t228 := Try.underlying86
 a228 := Try.isAgg86
 z228 := Try.sizeOf86
 v228 := Try.zeroValue86
 t229 := Try.underlying87
 a229 := Try.isAgg87
 z229 := Try.sizeOf87
 v229 := Try.zeroValue87 }
def Try.laysCompactInt_ren : Go.Shelf.Ren := ⟨fun | 20 => 36 | n => n, fun | 22 => 37 | 3 => 3 | 4 => 4 | 0 => 0 | n => n, fun | n => n⟩
theorem Try.laysCompactInt : Go.Proofs.Lays2.n20 Try.prog Try.laysCompactInt_ren := {
 mixed := by kernel_rfl
 f20 := Try.func36.trans (congrArg some (by kernel_rfl))
 t0 := Try.underlying0
 a0 := Try.isAgg0
 z0 := Try.sizeOf0
 v0 := Try.zeroValue0
 t3 := Try.underlying3
 a3 := Try.isAgg3
 z3 := Try.sizeOf3
 v3 := Try.zeroValue3
 t4 := Try.underlying4
 a4 := Try.isAgg4
 z4 := Try.sizeOf4
 v4 := Try.zeroValue4
 t22 := Try.underlying37
 a22 := Try.isAgg37
 z22 := Try.sizeOf37
 v22 := Try.zeroValue37
 i3 := by kernel_rfl }
end Go.Proofs
end
section
namespace Go.Proofs.Yteaaopodnbjpoaa
open Go Go.Sx Go.RowKit Go.Proofs
def dP (l : List Int) : List Int := l.mergeSort fun x y => decide (x ≤ y)
theorem gD (l : List Int) : (dP l).length = l.length := by simp [dP, List.length_mergeSort]
theorem xR (l : List Int) (hl : l.length ≤ 4611686018427387903) : FnI Try.prog 35 3 1 (l.map aU) [] true ((dP l).map aU) := by
 refine ⟨Try.call35, fun V w y S vs hm hrow hnd hlt hargs => ?_⟩
 have hvs : vs = [] := by have := hargs.1; simpa using this
 subst hvs
 rcases scal_down (e := Value.int .i64) hrow with ⟨⟨ao, rfl⟩, rfl, rfl⟩ | ⟨b, cap, c, rfl, h1, h2, h3, h4, h5, h6, rfl⟩
 ·refine (Any.slices_Sort_int_none Try.laysSortInt ao 0 w).mono ?_
  rintro e w' ⟨rfl, rfl⟩
  exact ⟨_, rfl, fun _ => rfl, ⟨⟨rfl, rfl, rfl, Nat.le_refl _, fun _ _ _ => rfl⟩, [], (by simpa [dP] using hrow), hnd, fun b hb => .inl hb, fun _ => rfl⟩⟩
 ·have hb : b < w.heap.size := (Array.getElem?_eq_some_iff.1 h3).1
  refine (Any.slices_Sort_int Try.laysSortInt b 0 cap l w h5 hb (by omega)).mono ?_
  rintro e w' ⟨rfl, n, os, rfl⟩
  have hup := yH (e := Value.int .i64) (l := dP l) (d := (dP l).toArray) (fun _ => rfl) h3 h4 h2 (by simp [gD]; exact h1) rfl (List.prefix_refl _) h6 (n := n) (os := os)
  rw [gD] at hup
  exact ⟨_, rfl, fun _ => rfl, ⟨hup.2, [b], hup.1, hnd, fun b hb => .inl hb, fun _ => rfl⟩⟩
theorem dO {α : Type} [Inhabited α] [DecidableEq α] (d : Array α) : ∀ m, (Lib.compactUpTo d m).length ≤ m
 | 0 => by simp [Lib.compactUpTo]
 | m + 1 => by
  have := dO d m
  rw [Lib.compactUpTo_succ, List.length_append]
  split <;> simp <;> omega
def rR (l : List Int) : List Int := Lib.compact l
theorem qL (l : List Int) (hl : l.length ≤ 4611686018427387903) : FnI Try.prog 36 3 1 (l.map aU) [] false ((rR l).map aU) := by
 refine ⟨Try.call36, fun V w y S vs hm hrow hnd hlt hargs => ?_⟩
 have hvs : vs = [] := by have := hargs.1; simpa using this
 subst hvs
 rcases scal_down (e := Value.int .i64) hrow with ⟨⟨ao, rfl⟩, rfl, rfl⟩ | ⟨b, cap, c, rfl, h1, h2, h3, h4, h5, h6, rfl⟩
 ·refine (Any.slices_Compact_int_empty Try.laysCompactInt ao 0 w).mono ?_
  rintro e w' ⟨rfl, rfl⟩
  exact ⟨_, rfl, fun h => (by cases h), ⟨⟨rfl, rfl, rfl, Nat.le_refl _, fun _ _ _ => rfl⟩, [], hrow, hnd, fun b hb => .inl hb, fun _ => rfl⟩⟩
 ·have hb : b < w.heap.size := (Array.getElem?_eq_some_iff.1 h3).1
  refine (Any.slices_Compact_int Try.laysCompactInt b 0 cap l w h5 (by omega) h1).mono ?_
  rintro e w' ⟨rfl, n, rfl⟩
  have hle : (Lib.compact l).length ≤ l.length := dO _ _
  have hup := yH (e := Value.int .i64) (l := rR l) (d := (Lib.compact l ++ List.replicate (l.length - (Lib.compact l).length) 0).toArray) (w' := Sort.putRow (Value.int .i64) (Sort.ahead w n) b 0 (Lib.compact l ++ List.replicate (l.length - (Lib.compact l).length) 0).toArray) (fun _ => rfl) h3 h4 h2 (by simp; omega) (by rw [Sort.grow_empty]) (by simp [rR]) h6 (n := n) (os := #[])
  exact ⟨_, rfl, fun h => (by cases h), ⟨hup.2, [b], hup.1, hnd, fun b hb => .inl hb, fun _ => rfl⟩⟩
def bl (s : ByteArray) : List UInt8 := s.data.toList
def lb (l : List UInt8) : ByteArray := ⟨l.toArray⟩
def a4j (l : List (List UInt8)) : List (List UInt8) := l.mergeSort fun x y => decide (x ≤ y)
def a4k (l : List ByteArray) : List ByteArray := (a4j (l.map bl)).map lb
def a4l (l : List ByteArray) : List ByteArray := (Lib.compact (l.map bl)).map lb
end Go.Proofs.Yteaaopodnbjpoaa
end
section
set_option maxRecDepth 100000
set_option maxHeartbeats 4000000
namespace Go.Sx
theorem a2i {P : Program} {C : Ctx} {F : Ex → St → Prop} {st : St} {code : Code} (i id : Nat) {ty sz : Nat} {rows : List (List D)} {lin : Bool} (hi : nth st.t i = .o (.s id)) (hb : bK st.h id = .row ty sz rows lin) (h : WP P C code F ⟨vF st.t i (.o (.d (.sl rows))), cK st.h id (.frz rows lin)⟩) : WP P C code F st := by
 intro g V a w hr
 obtain ⟨g', V', h1, h2, h3, h4, h5⟩ := hr.hp.frz hr.mod hr.fr.size (aC hb (by simp))
 have hr1 : Rel C g' V' ⟨st.t, cK st.h id (.frz rows lin)⟩ a w := ⟨hr.sl.mono h1 h2, by rw [aR]; exact h4, h3, hr.fr, hr.vw.grow h2 h5⟩
 refine h g' V' a w ⟨⟨by rw [dQ]; simpa using hr1.sl.size, fun n s y e1 e2 => ?_, hr1.sl.defers⟩, hr1.hp, hr1.mod, hr1.fr, hr1.vw⟩
 rw [dQ, List.getElem?_set] at e1
 by_cases e : i = n
 ·subst e
  rw [if_pos rfl] at e1
  split at e1
  ·rename_i hlt
   cases e1
   have hs : st.t[i]? = some (.o (.s id)) := by
    rw [eZ, List.getD_eq_getElem?_getD, List.getElem?_eq_getElem hlt] at hi
    rw [List.getElem?_eq_getElem hlt]
    exact congrArg some hi
   obtain ⟨gh, hgh, hy, _⟩ := hr1.sl.slot i _ y hs e2
   have hf : (cK st.h id (.frz rows lin))[id]? = some (.frz rows lin) := by
    have := aC hb (by simp)
    rw [aR, List.getElem?_set]; simp [(List.getElem?_eq_some_iff.1 this).1]
   obtain ⟨_, S, q1, _⟩ := hr1.hp.hb id _ gh hf hgh
   exact ⟨S, by rw [hy]; exact q1⟩
  ·cases e1
 ·rw [if_neg e] at e1
  exact hr1.sl.slot n s y e1 e2
end Go.Sx
namespace Go.Proofs.Yteaaopodnbjpoaa
open Go Go.Sx Go.RowKit Go.Proofs
theorem kG {α : Type} [Inhabited α] [DecidableEq α] (d : Array α) : ∀ (m i : Nat), i < m → d[i]! ∈ Lib.compactUpTo d m
 | 0, i, h => by omega
 | m + 1, i, h => by
  rw [Lib.compactUpTo_succ]
  by_cases hi : i < m
  ·exact List.mem_append_left _ (kG d m i hi)
  ·have e : i = m := by omega
   subst e
   cases hk : Lib.keeps d i with
   | true => exact List.mem_append_right _ (by simp)
   | false =>
    have h0 : 0 < i := by
     rcases Nat.eq_zero_or_pos i with h | h
     ·subst h; rw [Lib.keeps_lt_one d 0 (by omega)] at hk; cases hk
     ·exact h
    have he : d[i]! = d[i - 1]! := Classical.byContradiction fun hn => by rw [Lib.keeps_pos hn] at hk; cases hk
    rw [he]
    exact List.mem_append_left _ (kG d i (i - 1) (by omega))
theorem a1m {α : Type} [Inhabited α] [DecidableEq α] (zs : List α) (x : α) : x ∈ Lib.compact zs ↔ x ∈ zs := by
 refine ⟨fun h => ?_, fun h => ?_⟩
 ·unfold Lib.compact Lib.compactUpTo at h
  obtain ⟨i, hi, rfl⟩ := List.mem_map.1 h
  have hi' : i < zs.length := List.mem_range.1 (List.mem_filter.1 hi).1
  simp [getElem!_pos, hi']
 ·obtain ⟨i, hi, rfl⟩ := List.mem_iff_getElem.1 h
  have := kG zs.toArray zs.length i hi
  have e : zs.toArray[i]! = zs[i] := by simp [getElem!_pos, hi]
  rw [e] at this
  exact this
def a5w (l : List ByteArray) : List ByteArray := a4l (a4k l)
def geS (s : ByteArray) (y : ByteArray) : Bool := !kV y s
def a5j (l : List ByteArray) (s : ByteArray) : List ByteArray := if (l.drop (bU (geS s) l)).head? = some s then l else gW (bU (geS s) l) s l
def a5y (l : List ByteArray) : List ByteArray := l.foldl a5j []
theorem a0g {α : Type} (p : α → Bool) (l : List α) (k : Nat) (h : k < l.length) (hk : bU p l = k + bU p (l.drop k)) : bU p l = if p l[k] then k else k + 1 + bU p (l.drop (k + 1)) := by
 rw [hk, xQ p l k h]
 split <;> omega
end Go.Proofs.Yteaaopodnbjpoaa
end
section
namespace Go.Sx.Clos
section
variable {β : Type} [DecidableEq β]
def a5h (E : List (β × List β)) (S : List β) : Prop := ∀ e ∈ E, (∃ x ∈ e.2, x ∈ S) → e.1 ∈ S
def wsm (w : β → Nat) : List β → Nat
 | [] => 0
 | x :: l => w x + wsm w l
def a3j (w : β → Nat) : List (β × List β) → List β → Nat
 | [], _ => 0
 | e :: E, S => (if e.1 ∈ S then 0 else w e.1) + a3j w E S
variable (put : List β → β → List β)
def a5i (name : β) (out asks : List β) : List β := asks.foldl (fun o a => if a ∈ o then put o name else o) out
def round (E : List (β × List β)) (S : List β) : List β := E.foldl (fun o e => a5i put e.1 o e.2) S
def a3k (E : List (β × List β)) : Nat → List β → List β
 | 0, S => S
 | n + 1, S => round put E (a3k E n S)
variable {put} (hput : ∀ l s x, x ∈ put l s ↔ x = s ∨ x ∈ l)
include hput
omit hput
theorem sorted_same {lt : β → β → Prop} (hi : ∀ x, ¬ lt x x) (ht : ∀ x y z, lt x y → lt y z → lt x z) : ∀ {l m : List β}, l.Pairwise lt → m.Pairwise lt → (∀ x, x ∈ l ↔ x ∈ m) → l = m
 | [], [], _, _, _ => rfl
 | [], b :: m, _, _, h => by have := (h b).2 List.mem_cons_self; simp at this
 | a :: l, [], _, _, h => by have := (h a).1 List.mem_cons_self; simp at this
 | a :: l, b :: m, h1, h2, h => by
  rw [List.pairwise_cons] at h1 h2
  have hab : a = b := by
   rcases List.mem_cons.1 ((h a).1 List.mem_cons_self) with e | e
   ·exact e
   ·rcases List.mem_cons.1 ((h b).2 List.mem_cons_self) with e' | e'
    ·exact e'.symm
    ·exact absurd (ht _ _ _ (h1.1 b e') (h2.1 a e)) (hi a)
  subst hab
  congr 1
  refine sorted_same hi ht h1.2 h2.2 (fun x => ⟨fun hx => ?_, fun hx => ?_⟩)
  ·rcases List.mem_cons.1 ((h x).1 (List.mem_cons_of_mem _ hx)) with e | e
   ·subst e; exact absurd (h1.1 x hx) (hi x)
   ·exact e
  ·rcases List.mem_cons.1 ((h x).2 (List.mem_cons_of_mem _ hx)) with e | e
   ·subst e; exact absurd (h2.1 x hx) (hi x)
   ·exact e
end
end Go.Sx.Clos
namespace Go.Proofs.Yteaaopodnbjpoaa
open Go Go.Sx Go.RowKit Go.Proofs
def ltS (x y : ByteArray) : Prop := bl x < bl y
end Go.Proofs.Yteaaopodnbjpoaa
end
section
set_option maxRecDepth 100000
set_option maxHeartbeats 4000000
namespace Go.Proofs.Yteaaopodnbjpoaa
open Go Go.Sx Go.RowKit Go.Proofs
theorem zN (l : List Int) : ∀ r ∈ l.map aU, r.length = 1 := by intro r hr; obtain ⟨x, _, rfl⟩ := List.mem_map.1 hr; rfl
theorem dU {α β : Type} (f : α → β) (l : List α) (n : Nat) : (l.map f).take n = (l.take n).map f := List.map_take.symm
theorem dV {α β : Type} (f : α → β) (l : List α) (n : Nat) : (l.map f).drop n = (l.drop n).map f := List.map_drop.symm
def geI (s : Int) (y : Int) : Bool := !decide (y < s)
def dC (l : List Int) (s : Int) : List Int := if (l.drop (bU (geI s) l)).head? = some s then l else gW (bU (geI s) l) s l
theorem vU (l : List Int) (s x : Int) : x ∈ dC l s ↔ x = s ∨ x ∈ l := by
 unfold dC
 split
 ·rename_i h
  have : s ∈ l.drop (bU (geI s) l) := by
   cases hd : l.drop (bU (geI s) l) with
   | nil => rw [hd] at h; cases h
   | cons y r => rw [hd] at h; simp at h; simp [h]
  have hs := List.mem_of_mem_drop this
  constructor
  ·exact .inr
  ·rintro (rfl | h) <;> first | exact hs | exact h
 ·unfold gW
  conv => rhs; rw [← List.take_append_drop (bU (geI s) l) l]
  simp only [List.mem_append, List.mem_cons]
  constructor
  ·rintro (h | h | h) <;> first | exact .inr (.inl h) | exact .inl h | exact .inr (.inr h)
  ·rintro (h | h | h) <;> first | exact .inr (.inl h) | exact .inl h | exact .inr (.inr h)
theorem a0T (l : List Int) (s : Int) : (dC l s).length ≤ l.length + 1 := by
 unfold dC
 split
 ·omega
 ·rw [a0f _ _ _ (qD _ l)]; omega
theorem zO (l : List Int) : ∀ (a : List Int) (x : Int), x ∈ l.foldl dC a ↔ x ∈ a ∨ x ∈ l := by
 induction l with
 | nil => simp
 | cons y l ih =>
  intro a x
  rw [List.foldl_cons, ih, vU]
  simp only [List.mem_cons]
  constructor
  ·rintro ((h | h) | h) <;> first | exact .inr (.inl h) | exact .inl h | exact .inr (.inr h)
  ·rintro (h | h | h) <;> first | exact .inl (.inr h) | exact .inl (.inl h) | exact .inr h
theorem rM (l : List Int) : ∀ a : List Int, (l.foldl dC a).length ≤ a.length + l.length := by
 induction l with
 | nil => simp
 | cons y l ih =>
  intro a
  have h1 := ih (dC a y)
  have h2 := a0T a y
  simp only [List.foldl_cons, List.length_cons]; omega
theorem zP (y s : Int) (l : List Int) : dC (y :: l) s = if y < s then y :: dC l s else if y = s then y :: l else s :: y :: l := by
 unfold dC
 by_cases h : y < s
 ·have hg : geI s y = false := by simp [geI, h]
  simp only [bU, hg, Bool.false_eq_true, if_false, List.drop_succ_cons, if_pos h]
  split
  ·rfl
  ·simp [gW]
 ·have hg : geI s y = true := by simp [geI, h]
  simp only [bU, hg, if_true, List.drop_zero, List.head?_cons, if_neg h, Option.some.injEq]
  split
  ·rfl
  ·simp [gW]
theorem mU (s : Int) : ∀ {l : List Int}, l.Pairwise (fun x y => x < y) → (dC l s).Pairwise (fun x y => x < y)
 | [], _ => by simp [dC, bU, gW]
 | y :: l, h => by
  rw [zP]
  rw [List.pairwise_cons] at h
  split
  ·rename_i hlt
   rw [List.pairwise_cons]
   refine ⟨fun x hx => ?_, mU s h.2⟩
   rcases (vU l s x).1 hx with rfl | hx
   ·exact hlt
   ·exact h.1 x hx
  ·rename_i hlt
   split
   ·exact List.pairwise_cons.2 h
   ·rename_i hne
    have hs : s < y := by omega
    refine List.pairwise_cons.2 ⟨fun x hx => ?_, List.pairwise_cons.2 h⟩
    rcases List.mem_cons.1 hx with rfl | hx
    ·exact hs
    ·have := h.1 x hx; omega
theorem tF (l : List Int) : ∀ {a : List Int}, a.Pairwise (fun x y => x < y) → (l.foldl dC a).Pairwise (fun x y => x < y) := by
 induction l with
 | nil => intro a h; exact h
 | cons y l ih => intro a h; exact ih (mU y h)
theorem iL (d : Array Int) (hs : ∀ i j, i < j → j < d.size → d[i]! ≤ d[j]!) : ∀ m, m ≤ d.size → (Lib.compactUpTo d m).Pairwise (fun x y => x < y) ∧ ∀ x ∈ Lib.compactUpTo d m, 0 < m ∧ x ≤ d[m - 1]!
 | 0, _ => by simp [Lib.compactUpTo]
 | m + 1, hm => by
  obtain ⟨h1, h2⟩ := iL d hs m (by omega)
  rw [Lib.compactUpTo_succ]
  have hup : ∀ x ∈ Lib.compactUpTo d m, x ≤ d[m]! := fun x hx => by
   obtain ⟨h0, h3⟩ := h2 x hx
   have := hs (m - 1) m (by omega) (by omega); omega
  refine ⟨?_, fun x hx => ⟨by omega, ?_⟩⟩
  ·cases hk : Lib.keeps d m with
   | false => simpa using h1
   | true =>
    rw [List.pairwise_append]
    refine ⟨h1, by simp, fun x hx y hy => ?_⟩
    simp only [if_true, List.mem_singleton] at hy
    subst hy
    obtain ⟨h0, h3⟩ := h2 x hx
    have hne : d[m]! ≠ d[m - 1]! := fun e => by rw [Lib.keeps_neg h0 e] at hk; cases hk
    have hle := hs (m - 1) m (by omega) (by omega)
    have := hup x hx
    omega
  ·rcases List.mem_append.1 hx with h | h
   ·exact hup x h
   ·split at h
    ·simp only [List.mem_singleton] at h; subst h; exact Int.le_refl _
    ·simp at h
def kY (l : List Int) : List Int := rR (dP l)
theorem zQ (l : List Int) (x : Int) : x ∈ kY l ↔ x ∈ l := by
 unfold kY rR
 rw [a1m, dP, List.mem_mergeSort]
theorem zR (l : List Int) : (kY l).length ≤ l.length := by
 have := dO (dP l).toArray (dP l).length
 rw [gD] at this
 simpa [kY, rR, Lib.compact, gD] using this
theorem tH (l : List Int) : (kY l).Pairwise (fun x y => x < y) := by
 have hs : (dP l).Pairwise (fun a b => decide (a ≤ b) = true) := by
  refine List.pairwise_mergeSort (le := fun x y : Int => decide (x ≤ y)) (fun a b c h k => decide_eq_true (Int.le_trans (of_decide_eq_true h) (of_decide_eq_true k))) (fun a b => ?_) l
  by_cases h : a ≤ b
  ·simp [h]
  ·have : b ≤ a := by omega
   simp [this]
 exact (iL (dP l).toArray (fun i j hij hj => by
  have hj' : j < (dP l).length := by simpa using hj
  have hi' : i < (dP l).length := by omega
  have := List.pairwise_iff_getElem.1 hs i j hi' hj' hij
  simpa [getElem!_pos, hi', hj'] using of_decide_eq_true this) (dP l).length (by simp)).1
theorem zS (l : List Int) : kY l = l.foldl dC [] := by
 refine Go.Sx.Clos.sorted_same (lt := fun x y : Int => x < y) (fun x => Int.lt_irrefl x) (fun x y z h k => Int.lt_trans h k) (tH l) (tF l List.Pairwise.nil) fun x => ?_
 rw [zQ, zO]
 simp
def tJ (l : List Int) (y : TDiff) : List Int := kY (dJ l y.fRemoved ++ y.fAdded)
theorem vV (l : List Int) (y : TDiff) : (tJ l y).length ≤ l.length + wDiff y := by
 have h1 := zR (dJ l y.fRemoved ++ y.fAdded)
 have h2 := lC l y.fRemoved
 have h3 : y.fAdded.length ≤ wDiff y := by unfold wDiff; omega
 rw [List.length_append] at h1
 unfold tJ
 omega
def stL (n : ByteArray) (l : List Int) (y : TDiff) : List Int := if y.fName = n then tJ l y else l
def manyL (n : ByteArray) (l : List Int) (d : List TDiff) : List Int := d.foldl (stL n) l
theorem pO (n : ByteArray) (l : List Int) (d : List TDiff) (k : Nat) (h : k < d.length) : manyL n l (d.take (k + 1)) = stL n (manyL n l (d.take k)) d[k] := by
 unfold manyL
 rw [List.take_succ_eq_append_getElem h, List.foldl_append]
 rfl
theorem jB (n : ByteArray) (l : List Int) (d : List TDiff) : (manyL n l d).length ≤ l.length + wsum wDiff d := by
 induction d generalizing l with
 | nil => simp [manyL, wsum]
 | cons y d ih =>
  have h := ih (stL n l y)
  have h2 : (stL n l y).length ≤ l.length + wDiff y := by
   unfold stL
   split
   ·exact vV l y
   ·omega
  simp only [manyL, List.foldl_cons, wsum] at h ⊢
  omega
def dfR (x : TResult) (d : List TDiff) : TResult := ⟨x.fName, manyL x.fName x.fIDs d⟩
def dfs (r : List TResult) (d : List TDiff) : List TResult := r.map fun x => dfR x d
theorem vW (r : List TResult) (d : List TDiff) (k : Nat) (h : k < r.length) : dfs (r.take (k + 1)) d = dfs (r.take k) d ++ [dfR r[k] d] := by
 unfold dfs
 rw [List.take_succ_eq_append_getElem h, List.map_append]
 rfl
def midD (r : List TResult) (d : List TDiff) (i : Nat) : List TResult := dfs (r.take i) d ++ r.drop i
theorem zT (r : List TResult) (d : List TDiff) : midD r d 0 = r := by simp [midD, dfs]
theorem a0U (r : List TResult) (d : List TDiff) : midD r d r.length = dfs r d := by simp [midD]
theorem vX (r : List TResult) (d : List TDiff) (i : Nat) : (midD r d i).length = r.length := by simp [midD, dfs]; omega
theorem a1V (r : List TResult) (d : List TDiff) (i : Nat) (h : i < r.length) : (midD r d i)[i]'(by rw [vX]; exact h) = r[i] := by
 have e : (dfs (r.take i) d).length = i := by simp [dfs]; omega
 simp only [midD]
 rw [List.getElem_append_right (by omega)]
 simp [e]
theorem zU (r : List TResult) (d : List TDiff) (i : Nat) (h : i < r.length) : (midD r d i).set i (dfR r[i] d) = midD r d (i + 1) := by
 have e : (dfs (r.take i) d).length = i := by simp [dfs]; omega
 unfold midD
 rw [List.set_append_right _ _ (by omega), e, Nat.sub_self, vW r d i h, List.append_assoc]
 congr 1
 rw [List.drop_eq_getElem_cons h]
 rfl
theorem a3I (r : List TResult) (d : List TDiff) : (dfs r d).length = r.length := by simp [dfs]
theorem yG (d : List TDiff) : ∀ r : List TResult, wsum wResult (dfs r d) ≤ wsum wResult r + r.length * wsum wDiff d
 | [] => by simp [dfs, wsum]
 | x :: r => by
  have h := yG d r
  have h2 := jB x.fName x.fIDs d
  have h3 : wResult (dfR x d) ≤ wResult x + wsum wDiff d := by
   unfold wResult dfR; simp only; omega
  have e : dfs (x :: r) d = dfR x d :: dfs r d := rfl
  rw [e]
  simp only [wsum, List.length_cons, Nat.add_mul, Nat.one_mul]
  omega
theorem vY (l : List Int) (s : Int) (hl : l.length ≤ 4300000) : FnC Try.prog 29 [.o (.d (.sl (l.map aU))), oi s] (.o (.d (.sl ((dC l s).map aU)))) := by
 have hle := qD (geI s) l
 refine ent Try.func29 rfl Try.call29 rfl (fun C => ?_); simp only [go_sem, st0, Try.ntmps29]
 refine aN ?_
 refine bP (α := Nat) (fun k => [(5, oi k)]) (fun _ => []) (fun k => k ≤ l.length ∧ bU (geI s) l = k + bU (geI s) (l.drop k)) (fun k => l.length - k) 0 (fun _ => ?_) ?_ ?_ (fun k hk => ?_)
 ·simp only [go_sem]
 ·simp only [go_sem]; simp
 ·simp
 ·obtain ⟨hk, hf⟩ := hk
  simp only [go_sem]
  by_cases h1 : k < l.length
  ·have hfx := a0g (geI s) l k h1 hf
   have h1' : ((k : Int) < (l.length : Int)) = True := by simp [h1]
   have q0 := @h1; have q1 := @h1'; have q2 := @decide_true; refine a3F ?_
   refine cnd (b := decide (l[k] < s)) rfl (fun h2 => ?_) (fun h2 => ?_)
   ·rw [if_neg (by simp [geI, h2])] at hfx
    refine aN ?_
    refine aY (k + 1) ?_ ?_ ?_
    ·simp only [go_sem]; simp
    ·exact ⟨by omega, hfx⟩
    ·omega
   ·rw [if_pos (by simp [geI, h2])] at hfx
    have hd := List.drop_eq_getElem_cons h1
    by_cases h3 : l[k] = s
    ·have hput : dC l s = l := by unfold dC; rw [hfx, hd]; simp [h3]
     have q0 := @h1; have q1 := @h1'; have q2 := @h3; have q3 := @decide_true; refine a2S ?_
     exact aA ⟨⟨_, rfl, by simp only [go_sem, hput]⟩, trivial⟩
    ·have hput : dC l s = gW k s l := by unfold dC; rw [hfx, hd]; exact if_neg (fun h => h3 (Option.some.inj h))
     have hn1 : ((0 : Int) ≤ (k : Int)) := by omega
     have qH := aI @h1 (aI @h1' (aI @h3 (aI @hn1 (aI @decide_true (aI @decide_false (aI @dU (aI @dV (aI @rH (aI @rJ @zL))))))))); repeat' (with_reducible first | refine nY ?_ | (refine mX ?_; try simp only [go_sem, qH]) | refine kD ?_ | refine rD ?_ | refine aO ?_ | fail)
     refine ⟨zN l, by omega, by omega, by omega, ?_⟩
     have q0 := @dU; have q1 := @dV; have q2 := @rH; have q3 := @rJ; have q4 := @zL; refine a1U ?_
     refine ⟨zN l, by omega, by omega, by omega, ?_⟩
     have q0 := @dU; have q1 := @dV; have q2 := @rH; have q3 := @rJ; have q4 := @zL; refine a1U ?_
     refine lM (Sees.frz 0 rfl) ?_
     simp only [go_sem]
     exact aA ⟨⟨_, rfl, by simp only [go_sem, hput, gW, List.take_length, List.map_append, List.map_cons, List.append_assoc, List.cons_append, List.nil_append]⟩, trivial⟩
  ·have e : k = l.length := by omega
   have hfx : bU (geI s) l = k := by rw [hf, e, List.drop_length]; rfl
   have hput : dC l s = gW k s l := by unfold dC; rw [hfx, e, List.drop_length]; simp
   have h1' : ((k : Int) < (l.length : Int)) = False := by simp [h1]
   have q0 := @h1; have q1 := @h1'; have q2 := @decide_false; have q3 := @dU; have q4 := @dV; have q5 := @rH; have q6 := @rJ; have q7 := @zL; refine a4P ?_
   refine ⟨zN l, by omega, by omega, by omega, ?_⟩
   have q0 := @dU; have q1 := @dV; have q2 := @rH; have q3 := @rJ; have q4 := @zL; refine a1U ?_
   refine ⟨zN l, by omega, by omega, by omega, ?_⟩
   have q0 := @dU; have q1 := @dV; have q2 := @rH; have q3 := @rJ; have q4 := @zL; refine a1U ?_
   refine lM (Sees.frz 0 rfl) ?_
   simp only [go_sem]
   exact aA ⟨⟨_, rfl, by simp only [go_sem, hput, gW, List.take_length, List.map_append, List.map_cons, List.append_assoc, List.cons_append, List.nil_append]⟩, trivial⟩
theorem a0V (b : List Int) (x : Int) (hb : b.length ≤ 67108864) : FnC Try.prog 38 [oi x, .o (.q [.sl (b.map aU)])] (ob (iA b x)) := by
 refine ent Try.func38 rfl Try.call38 rfl (fun C => ?_); simp only [go_sem, st0, Try.ntmps38]
 refine zM (tV b x hb) ?_
 exact aA ⟨⟨_, rfl, by simp only [go_sem]⟩, trivial⟩
theorem xG (a b : List Int) (ha : a.length ≤ 67108864) (hb : b.length ≤ 67108864) : FnC Try.prog 34 [.o (.d (.sl (a.map aU))), .o (.d (.sl (b.map aU)))] (.o (.w 3 1 ((dJ a b).map aU))) := by
 refine ent Try.func34 rfl Try.call34 rfl (fun C => ?_); simp only [go_sem, st0, Try.ntmps34]
 have qH := trivial; repeat' (with_reducible first | refine nY ?_ | (refine mX ?_; try simp only [go_sem]) | refine kD ?_ | refine rD ?_ | refine cP (nC a ha) ?_ | refine vI (iM _ [.sl (b.map aU)] (iA b) a (fun s _ => a0V b s hb) ha) ?_ | refine vJ (iM _ [.sl (b.map aU)] (iA b) a (fun s _ => a0V b s hb) ha) ?_ | refine aO ?_ | fail)
 exact aA ⟨⟨_, rfl, by simp only [go_sem, dJ]⟩, trivial⟩
theorem vZ (l a r : List Int) (hl : l.length ≤ 4300000) (ha : a.length ≤ 4300000) (hr : r.length ≤ 4300000) : FnC Try.prog 32 [.o (.d (.sl (l.map aU))), .o (.d (.sl (a.map aU))), .o (.d (.sl (r.map aU)))] (.o (.w 3 1 ((kY (dJ l r ++ a)).map aU))) := by
 have hs := lC l r
 have hl1 : (dJ l r).length + a.length ≤ 140737488355328 := by omega
 have hl2 : ((dJ l r).length + a.length) * 8 ≤ 140737488355328 := by omega
 have hso := xR (dJ l r ++ a) (by rw [List.length_append]; omega)
 have hco := qL (dP (dJ l r ++ a)) (by rw [gD, List.length_append]; omega)
 rw [List.map_append] at hso
 refine ent Try.func32 rfl Try.call32 rfl (fun C => ?_); simp only [go_sem, st0, Try.ntmps32]
 have qH := aI @hl1 @hl2; repeat' (with_reducible first | refine nY ?_ | (refine mX ?_; try simp only [go_sem, qH]) | refine kD ?_ | refine rD ?_ | refine cP (xG l r (by omega) (by omega)) ?_ | refine vI hso ?_ | refine vJ hso ?_ | refine vI hco ?_ | refine vJ hco ?_ | refine aO ?_ | fail)
 exact aA ⟨⟨_, rfl, by simp only [go_sem, kY]⟩, trivial⟩
theorem xH (l : List Int) (y : TDiff) (hl : l.length ≤ 4300000) (hy : wDiff y ≤ 4300000) : FnC Try.prog 21 [.o (.d (.sl (l.map aU))), rP y] (.o (.w 3 1 ((tJ l y).map aU))) := by
 have h1 : y.fAdded.length ≤ wDiff y := by unfold wDiff; omega
 have h2 : y.fRemoved.length ≤ wDiff y := by unfold wDiff; omega
 refine ent Try.func21 rfl Try.call21 rfl (fun C => ?_); simp only [go_sem, st0, Try.ntmps21]
 refine zM (vZ l y.fAdded y.fRemoved hl (by omega) (by omega)) ?_
 exact aA ⟨⟨_, rfl, by simp only [go_sem, tJ]⟩, trivial⟩
theorem zV (a b : List Int) (k : Nat) (h : k < a.length) : dJ (a.take (k + 1)) b = dJ (a.take k) b ++ (if iA b a[k] then [] else [a[k]]) := by
 unfold dJ
 rw [List.take_succ_eq_append_getElem h, List.filter_append]
 cases hc : iA b a[k]
 ·simp [hc]
 ·simp [hc]
theorem xI (l : List Int) (y : TDiff) (hl : l.length ≤ 1048576) (hy : wDiff y ≤ 1048576) : FnC Try.prog 17 [.o (.d (.sl (l.map aU))), rP y] (.o (.w 3 1 ((tJ l y).map aU))) := by
 have h1 : y.fAdded.length ≤ wDiff y := by unfold wDiff; omega
 have h2 : y.fRemoved.length ≤ wDiff y := by unfold wDiff; omega
 have hput : ∀ (a : List Int) (s : Int), a.length ≤ 4300000 → FnC Try.prog 29 [.o (.d (.sl (a.map aU))), oi s] (.o (.d (.sl ((dC a s).map aU)))) := fun a s h => vY a s h
 refine ent Try.func17 rfl Try.call17 rfl (fun C => ?_); simp only [go_sem, st0, Try.ntmps17]
 refine aN ?_
 refine a2i 5 1 rfl rfl ?_
 simp only [go_sem]
 refine bP (α := Nat) (fun k => [(5, .o (.d (.sl (((dJ (l.take k) y.fRemoved).foldl dC []).map aU)))), (8, .o .u), (6, oi k)]) (fun _ => []) (fun k => k ≤ l.length) (fun k => l.length - k) 0 (fun _ => ?_) ?_ ?_ (fun k hk => ?_)
 ·simp only [go_sem]
 ·simp only [go_sem]; simp [dJ]
 ·simp
 ·simp only [go_sem]
  refine aN ?_
  refine cnd rfl (fun g1 => ?_) (fun g1 => ?_)
  ·simp only [decide_eq_true_eq, Int.ofNat_lt] at g1
   have ht := zV l y.fRemoved k g1
   have hf := rM (dJ (l.take k) y.fRemoved) []
   have hs := lC (l.take k) y.fRemoved
   rw [List.length_take] at hs
   have hp := hput ((dJ (l.take k) y.fRemoved).foldl dC []) l[k] (by simp only [List.length_nil] at hf; omega)
   cases hv : iA y.fRemoved l[k]
   all_goals
    rw [hv] at ht
    have q0 := @g1; have q1 := @hv; refine a3E (lD y.fRemoved l[k] (by omega)) hp ?_
    refine aY (k + 1) ?_ ?_ ?_
    ·simp only [go_sem, ht]; simp [List.foldl_append]
    ·omega
    ·omega
  ·simp only [decide_eq_false_iff_not, Int.ofNat_lt] at g1
   have e : k = l.length := by omega
   subst e
   rw [List.take_length]
   have hs := lC l y.fRemoved
   refine aN ?_
   refine bP (α := Nat) (fun k => [(5, .o (.d (.sl (((dJ l y.fRemoved ++ y.fAdded.take k).foldl dC []).map aU)))), (7, oi k)]) (fun _ => []) (fun k => k ≤ y.fAdded.length) (fun k => y.fAdded.length - k) 0 (fun _ => ?_) ?_ ?_ (fun k hk => ?_)
   ·simp only [go_sem]
   ·simp only [go_sem]; simp
   ·simp
   ·simp only [go_sem]
    refine aN ?_
    refine cnd rfl (fun g2 => ?_) (fun g2 => ?_)
    ·simp only [decide_eq_true_eq, Int.ofNat_lt] at g2
     have ht := List.take_succ_eq_append_getElem g2
     have hf := rM (dJ l y.fRemoved ++ y.fAdded.take k) []
     rw [List.length_append, List.length_take] at hf
     have hp := hput ((dJ l y.fRemoved ++ y.fAdded.take k).foldl dC []) y.fAdded[k] (by simp only [List.length_nil] at hf; omega)
     have hfx : (dJ l y.fRemoved ++ y.fAdded.take (k + 1)).foldl dC [] = dC ((dJ l y.fRemoved ++ y.fAdded.take k).foldl dC []) y.fAdded[k] := by rw [ht, ← List.append_assoc, List.foldl_append]; rfl
     have q0 := @g2; refine vT hp ?_
     refine aY (k + 1) ?_ ?_ ?_
     ·simp only [go_sem, hfx]; simp
     ·omega
     ·omega
    ·simp only [decide_eq_false_iff_not, Int.ofNat_lt] at g2
     have e : k = y.fAdded.length := by omega
     subst e
     rw [List.take_length]
     have hN : (dJ l y.fRemoved ++ y.fAdded).foldl dC [] = tJ l y := (zS _).symm
     have hnl := vV l y
     rw [hN]
     refine aN ?_
     exact aA ⟨⟨_, rfl, by simp only [go_sem]⟩, trivial⟩
end Go.Proofs.Yteaaopodnbjpoaa
end
section
set_option maxRecDepth 100000
set_option maxHeartbeats 4000000
namespace Go.Proofs.Yteaaopodnbjpoaa
open Go Go.Sx Go.RowKit Go.Proofs
theorem a3H (R : List TResult) (i : Nat) (nm : ByteArray) (l : List Int) : (R.map aF).set i [sv nm, .sl (l.map aU)] = (R.set i ⟨nm, l⟩).map aF := by rw [List.map_set]; rfl
theorem sZ (r : List TResult) (d : List TDiff) (hr : wResultS r ≤ 1048576) (hd : wDiffS d ≤ 1048576) : FnC Try.prog 9 [.o (.d (.sl (r.map aF))), .o (.d (.sl (d.map bD)))] (.o (.w 43 2 ((dfs r d).map aF))) := by
 have hcp := uF r (by omega)
 unfold wResultS at hr
 unfold wDiffS at hd
 refine ent Try.func9 rfl Try.call9 rfl (fun C => ?_); simp only [go_sem, st0, Try.ntmps9]
 refine zM hcp ?_
 refine bP (α := Nat) (fun i => [(14, oi i)]) (fun i => [(0, .row 43 2 ((midD r d i).map aF) true)]) (fun i => i ≤ r.length) (fun i => r.length - i) 0 (fun _ => ?_) ?_ ?_ (fun i hi => ?_)
 ·simp only [go_sem]
 ·simp only [go_sem]; simp [zT]
 ·simp
 ·simp only [go_sem]
  refine aN ?_
  refine cnd rfl (fun h1 => ?_) (fun h1 => ?_)
  ·simp only [decide_eq_true_eq, Int.ofNat_lt, List.length_map] at h1
   have hat : ∀ h : i < (midD r d i).length, (midD r d i)[i]'h = r[i] := fun _ => a1V r d i h1
   have hml := vX r d i
   have hnx := zU r d i h1
   have hwr := bW wResult r h1
   have hwi : r[i].fIDs.length ≤ wResult r[i] := by unfold wResult; omega
   generalize midD r d i = P at *
   have hiP : i < P.length := by omega
   have p1 : P[i].fName = r[i].fName := by rw [hat hiP]
   have p2 : P[i].fIDs = r[i].fIDs := by rw [hat hiP]
   have hz : P.set i ⟨r[i].fName, manyL r[i].fName r[i].fIDs (d.take 0)⟩ = P := by
    have e : (⟨r[i].fName, manyL r[i].fName r[i].fIDs (d.take 0)⟩ : TResult) = P[i] := by rw [hat hiP]; rfl
    rw [e]; exact List.set_getElem_self hiP
   have q0 := @h1; have q1 := @hiP; have q2 := @p1; have q3 := @p2; refine a2S ?_
   refine bP (α := Nat) (fun k => [(21, oi k)]) (fun k => [(0, .row 43 2 ((P.set i ⟨r[i].fName, manyL r[i].fName r[i].fIDs (d.take k)⟩).map aF) true)]) (fun k => k ≤ d.length) (fun k => d.length - k) 0 (fun _ => ?_) ?_ ?_ (fun k hk => ?_)
   ·simp only [go_sem]
   ·simp only [go_sem, hz]; simp
   ·simp
   ·simp only [go_sem]
    have hl := jB r[i].fName r[i].fIDs (d.take k)
    have hlk := kZ wDiff d k
    have hQl : i < (P.set i ⟨r[i].fName, manyL r[i].fName r[i].fIDs (d.take k)⟩).length := by rw [List.length_set]; exact hiP
    have hQi : ∀ h : i < (P.set i ⟨r[i].fName, manyL r[i].fName r[i].fIDs (d.take k)⟩).length, (P.set i ⟨r[i].fName, manyL r[i].fName r[i].fIDs (d.take k)⟩)[i]'h = ⟨r[i].fName, manyL r[i].fName r[i].fIDs (d.take k)⟩ := fun h => List.getElem_set_self h
    have hQs : ∀ x : TResult, (P.set i ⟨r[i].fName, manyL r[i].fName r[i].fIDs (d.take k)⟩).set i x = P.set i x := fun x => List.set_set ..
    have hmt := pO r[i].fName r[i].fIDs d k
    have hLd : k = d.length → manyL r[i].fName r[i].fIDs (d.take k) = manyL r[i].fName r[i].fIDs d := fun h => by rw [h, List.take_length]
    generalize manyL r[i].fName r[i].fIDs (d.take k) = L at *
    generalize hQ : P.set i ⟨r[i].fName, L⟩ = Q at *
    have q1' : Q[i].fName = r[i].fName := by rw [hQi hQl]
    have q2' : Q[i].fIDs = L := by rw [hQi hQl]
    refine aN ?_
    refine cnd rfl (fun h2 => ?_) (fun h2 => ?_)
    ·simp only [decide_eq_true_eq, Int.ofNat_lt, List.length_map] at h2
     have hwd := bW wDiff d h2
     have ht := hmt h2
     by_cases hN : d[k].fName = r[i].fName
     ·have hadi := xH L d[k] (by omega) (by omega)
      have hN' : decide (d[k].fName = r[i].fName) = true := by simp [hN]
      have e : P.set i ⟨r[i].fName, manyL r[i].fName r[i].fIDs (d.take (k + 1))⟩ = Q.set i ⟨r[i].fName, tJ L d[k]⟩ := by rw [hQs, ht, stL, if_pos hN]
      have qH := aI @h2 (aI @hiP (aI @hQl (aI @p1 (aI @q1' (aI @q2' @hN'))))); repeat' (with_reducible first | refine nY ?_ | (refine mX ?_; try simp only [go_sem, qH]) | refine kD ?_ | (apply rE [8,11] [] [0,1,2,3,4,5,6,7] [0,1,2,3,4,5,6,7] ((.c 8 [9,10] [0,1,9,10] (.c 11 [] [] .n .n) .n)) (by simp only [go_sem]; rfl) (by simp only [go_sem]; rfl) (by simp only [go_sem]; rfl) (by decide +kernel); (focus simp only [go_sem]; done)) | exact uI | refine nU (uX ?_) ?_ | refine nV (aX ?_) ?_ | refine nW (aX ?_) ?_ | exact nT | exact oH | exact uB | refine rD ?_ | refine vR hadi ?_ | refine vG hadi ?_ | refine aO ?_ | fail)
      refine aY (k + 1) ?_ ?_ ?_
      ·simp only [go_sem, e, ← a3H]; simp
      ·omega
      ·omega
     ·have hN' : decide (d[k].fName = r[i].fName) = false := by simp [hN]
      have e : P.set i ⟨r[i].fName, manyL r[i].fName r[i].fIDs (d.take (k + 1))⟩ = Q := by rw [ht, stL, if_neg hN]; exact hQ
      have q0 := @h2; have q1 := @hiP; have q2 := @p1; have q3 := @hN'; refine a2S ?_
      refine aY (k + 1) ?_ ?_ ?_
      ·simp only [go_sem, e]; simp
      ·omega
      ·omega
    ·simp only [decide_eq_false_iff_not, Int.ofNat_lt, List.length_map] at h2
     have ek : k = d.length := by omega
     have hLd := hLd ek
     have e : Q = midD r d (i + 1) := by
      rw [← hnx, ← hQ]
      rw [hLd]; rfl
     refine aN ?_
     refine aY (i + 1) ?_ ?_ ?_
     ·simp only [go_sem, e]; simp
     ·omega
     ·omega
  ·simp only [decide_eq_false_iff_not, Int.ofNat_lt, List.length_map] at h1
   have e : i = r.length := by omega
   subst e
   rw [a0U]
   refine aN ?_
   exact aA ⟨⟨_, rfl, by simp only [go_sem]⟩, trivial⟩
theorem tC (r : List TResult) (d : List TDiff) (hr : wResultS r ≤ 1048576) (hd : wDiffS d ≤ 1048576) (hw : wResultS r + wDiffS d ≤ 1048576) : FnC Try.prog 6 [.o (.d (.sl (r.map aF))), .o (.d (.sl (d.map bD)))] (.o (.d (.sl ((dfs r d).map aF)))) := by
 unfold wResultS at hr hw
 unfold wDiffS at hd hw
 refine ent Try.func6 rfl Try.call6 rfl (fun C => ?_); simp only [go_sem, st0, Try.ntmps6]
 refine aN ?_
 refine a2Q 0 rfl ?_
 simp only [go_sem]
 refine bP (α := Nat) (fun i => [(5, .o (.s 0)), (9, .o .u), (6, oi i)]) (fun i => [(0, .row 43 2 ((dfs (r.take i) d).map aF) false)]) (fun i => i ≤ r.length) (fun i => r.length - i) 0 (fun _ => ?_) ?_ ?_ (fun i hi => ?_)
 ·simp only [go_sem]
 ·simp only [go_sem]; simp [dfs]
 ·simp
 ·simp only [go_sem]
  refine aN ?_
  refine cnd rfl (fun h1 => ?_) (fun h1 => ?_)
  ·simp only [decide_eq_true_eq, Int.ofNat_lt, List.length_map] at h1
   have hwr := bW wResult r h1
   have hwi : r[i].fIDs.length ≤ wResult r[i] := by unfold wResult; omega
   have hT : List.take r[i].fIDs.length (List.map aU r[i].fIDs) = List.map aU r[i].fIDs := List.take_of_length_le (by simp)
   have hnl : (dfs (r.take i) d).length = i := by simp [dfs]; omega
   have hl1 : (dfs (r.take i) d).length + 1 ≤ 140737488355328 := by omega
   have hl2 : ((dfs (r.take i) d).length + 1) * 40 ≤ 140737488355328 := by omega
   have hdt := vW r d i h1
   have qH := aI @h1 (aI @hT @a4N); repeat' (with_reducible first | refine nY ?_ | (refine mX ?_; try simp only [go_sem, qH]) | refine kD ?_ | (apply rE [5,11,13,14] [] [0,1,2,3,4,6,7,8,9,10] [0,1,2,3,4,6,7,8,9,10] ((.c 5 [] [0,1,2,3,4,6,7,8,9,10] (.c 11 [12] [0,1,2,3,4,12] (.c 13 [] [0,1,2,3,4,12] (.c 14 [] [] .n .n) .n) (.c 13 [] [0,1,2,3,4,6,7,8,9,10] (.c 11 [12] [0,1,2,3,4,12] (.c 14 [] [] .n .n) .n) .n)) (.c 13 [] [0,1,2,3,4,6,7,8,9,10] (.c 5 [] [0,1,2,3,4,6,7,8,9,10] (.c 11 [12] [0,1,2,3,4,12] (.c 14 [] [] .n .n) .n) .n) .n))) (by simp only [go_sem]; rfl) (by simp only [go_sem]; rfl) (by simp only [go_sem]; rfl) (by decide +kernel); (focus simp only [go_sem]; done)) | exact uI | refine nU (uX ?_) ?_ | refine nV (aX ?_) ?_ | refine nW (aX ?_) ?_ | exact nT | (refine a2h [(1, 2)] (by simp only [go_sem]; rfl) ?_; exact rfl) | exact oH | (refine uA ?_; simp only [go_sem, qH]; (repeat' first | omega | exact zN _ | refine And.intro ?_ ?_); done) | refine rD ?_ | refine And.intro (zN _) ?_ | refine aO ?_ | fail)
   refine bP (α := Nat) (fun k => [(27, .o .u), (21, .o .u), (28, .o .u), (8, oi k)]) (fun k => [(1, .row 3 1 ((manyL r[i].fName r[i].fIDs (d.take k)).map aU) true), (2, .box 43 [.d (sv r[i].fName), .s 1])]) (fun k => k ≤ d.length) (fun k => d.length - k) 0 (fun _ => ?_) ?_ ?_ (fun k hk => ?_)
   ·simp only [go_sem]
   ·simp only [go_sem]; simp [manyL]
   ·simp
   ·simp only [go_sem]
    have hl := jB r[i].fName r[i].fIDs (d.take k)
    have hlk := kZ wDiff d k
    have hmt := pO r[i].fName r[i].fIDs d k
    have hLd : k = d.length → manyL r[i].fName r[i].fIDs (d.take k) = manyL r[i].fName r[i].fIDs d := fun h => by rw [h, List.take_length]
    generalize manyL r[i].fName r[i].fIDs (d.take k) = L at *
    refine aN ?_
    refine cnd rfl (fun h2 => ?_) (fun h2 => ?_)
    ·simp only [decide_eq_true_eq, Int.ofNat_lt, List.length_map] at h2
     have hwd := bW wDiff d h2
     have ht := hmt h2
     by_cases hN : d[k].fName = r[i].fName
     ·have hadi := xI L d[k] (by omega) (by omega)
      have hN' : decide (d[k].fName = r[i].fName) = true := by simp [hN]
      have e : manyL r[i].fName r[i].fIDs (d.take (k + 1)) = tJ L d[k] := by rw [ht, stL, if_pos hN]
      have qH := aI @h2 @hN'; repeat' (with_reducible first | refine nY ?_ | (refine mX ?_; try simp only [go_sem, qH]) | refine kD ?_ | (apply rE [6,8] [] [0,1,2,3,4,5] [0,1,2,3,4,5] ((.c 6 [7] [7] (.c 8 [] [] .n .n) .n)) (by simp only [go_sem]; rfl) (by simp only [go_sem]; rfl) (by simp only [go_sem]; rfl) (by decide +kernel); (focus simp only [go_sem]; done)) | exact uI | refine nU (uX ?_) ?_ | refine nV (aX ?_) ?_ | refine nW (aX ?_) ?_ | exact nT | exact oH | exact uB | refine rD ?_ | refine vR hadi ?_ | refine vG hadi ?_ | refine aO ?_ | fail)
      refine a1t [(1, 3)] (k + 1) (by simp only [go_sem]; rfl) ?_ ?_ ?_
      ·simp only [go_sem, e]; simp
      ·omega
      ·omega
     ·have hN' : decide (d[k].fName = r[i].fName) = false := by simp [hN]
      have e : manyL r[i].fName r[i].fIDs (d.take (k + 1)) = L := by rw [ht, stL, if_neg hN]
      have q0 := @h2; have q1 := @hN'; refine a2R ?_
      refine aY (k + 1) ?_ ?_ ?_
      ·simp only [go_sem, e]; simp
      ·omega
      ·omega
    ·simp only [decide_eq_false_iff_not, Int.ofNat_lt, List.length_map] at h2
     have ek : k = d.length := by omega
     have hLd := hLd ek
     have q0 := @hnl; have q1 := @hl1; have q2 := @hl2; refine a3F ?_
     refine aY (i + 1) ?_ ?_ ?_
     ·simp only [go_sem, hdt, dfR, hLd, List.map_append]; simp [aF]
     ·omega
     ·omega
  ·simp only [decide_eq_false_iff_not, Int.ofNat_lt, List.length_map] at h1
   have e : i = r.length := by omega
   subst e
   rw [List.take_length]
   refine aN ?_
   refine lM (Sees.frz 0 rfl) ?_
   simp only [go_sem]
   exact aA ⟨⟨_, rfl, by simp only [go_sem]⟩, trivial⟩
theorem qG (l : List TResult) (hl : l.length ≤ 67108864) (hx : ∀ (k : Nat) (h : k < l.length), wResult l[k] ≤ 67108864) : FnC Try.prog 10 [.o (.d (.sl (l.map aF))), .o (.d (.sl (l.map aF)))] (ob true) := by
 refine ent Try.func10 rfl Try.call10 rfl (fun C => ?_); simp only [go_sem, st0, Try.ntmps10]
 refine aN ?_
 refine bP (α := Nat) (fun k => [(5, oi k)]) (fun _ => []) (fun k => k ≤ l.length) (fun k => l.length - k) 0 (fun _ => ?_) ?_ ?_ (fun k hk => ?_)
 ·simp only [go_sem]
 ·simp only [go_sem]; simp
 ·simp
 ·simp only [go_sem]
  refine aN ?_
  refine cnd rfl (fun h => ?_) (fun h => ?_)
  ·simp only [decide_eq_true_eq, Int.ofNat_lt] at h
   have q0 := @h; refine vT (mZ l[k] (hx k h)) ?_
   refine aY (k + 1) ?_ ?_ ?_
   ·simp only [go_sem]; simp
   ·omega
   ·omega
  ·simp only [decide_eq_false_iff_not] at h
   refine aN ?_
   exact aA ⟨⟨_, rfl, by simp only [go_sem]⟩, trivial⟩
theorem lY (r : List TResult) (d : List TDiff) (hfr : fZ r) (hfd : nR d) : FnC Try.prog 3 [.o (.d (.sl (r.map aF))), .o (.d (.sl (d.map bD)))] (ob true) := by
 refine ent Try.func3 rfl Try.call3 rfl (fun C => ?_); simp only [go_sem, st0, Try.ntmps3]
 have z1 := uE r 1048576 (by omega) hfr
 by_cases h1 : bS 1048576 (wResultS r) < 0
 ·have q0 := @h1; refine vT z1 ?_
  exact aA ⟨⟨_, rfl, by simp only [go_sem]⟩, trivial⟩
 have s1 : wResultS r ≤ 1048576 := by have := wC h1; omega
 have e1 : bS 1048576 (wResultS r) = 1048576 - (wResultS r : Nat) := bF (by omega)
 rw [e1] at z1 h1
 have z2 := xN d (1048576 - (wResultS r : Nat)) (by omega) hfd
 by_cases h2 : bS (1048576 - (wResultS r : Nat)) (wDiffS d) < 0
 ·have q0 := @h1; have q1 := @h2; refine a3E z1 z2 ?_
  exact aA ⟨⟨_, rfl, by simp only [go_sem]⟩, trivial⟩
 have s2 : wResultS r + wDiffS d ≤ 1048576 := by have := wC h2; omega
 have e2 : bS (1048576 - (wResultS r : Nat)) (wDiffS d) = 1048576 - (wResultS r : Nat) - (wDiffS d : Nat) := bF (by omega)
 rw [e2] at z2 h2
 have b1 : wResultS r = r.length + wsum wResult r := rfl
 have b2 : wDiffS d = d.length + wsum wDiff d := rfl
 have c1 := pR r
 have c2 := a1f d
 have hi := sZ r d (by omega) (by omega)
 have hk := tC r d (by omega) (by omega) (by omega)
 have hXl := a3I r d
 have hXs := yG d r
 have hmul : r.length * wsum wDiff d ≤ 1048576 * 1048576 := Nat.mul_le_mul (by omega) (by omega)
 have hXw : ∀ (k : Nat) (h : k < (dfs r d).length), wResult (dfs r d)[k] ≤ 67108864 := fun k h => by
  have hk' : k < r.length := by omega
  have e : (dfs r d)[k] = dfR r[k] d := by simp [dfs]
  have g1 := jB r[k].fName r[k].fIDs d
  have g2 := bW wResult r hk'
  have hw1 : wResult r[k] = r[k].fName.size + r[k].fIDs.length := rfl
  have hw2 : wResult (dfR r[k] d) = r[k].fName.size + (manyL r[k].fName r[k].fIDs d).length := rfl
  rw [e, hw2]
  omega
 generalize dfs r d = X at *
 have c3 := pR X
 have hq := qG X (by omega) hXw
 have k1 : ¬ ((1 : Int) + (csum cnResult r : Nat) + (csum cnDiff d : Nat) < 0) := by omega
 have k2 : ¬ ((1 : Int) + (csum cnResult X : Nat) < 0) := by omega
 have q0 := @h1; have q1 := @h2; have q2 := @k1; have q3 := @k2; have q4 := @Bool.true_beq; have q5 := @Bool.false_beq; refine a4O z1 z2 ?_
 repeat' (with_reducible first | refine nX ?_ | (refine mX ?_; try simp only [go_sem]) | refine kD ?_ | refine cP (jK r (by omega)) ?_ | refine cP (nA d (by omega)) ?_ | refine cP hk ?_ | refine aO ?_ | fail)
 have qH := aI @h1 (aI @h2 (aI @k1 (aI @k2 (aI @Bool.true_beq @Bool.false_beq)))); repeat' (with_reducible first | refine nY ?_ | (refine mX ?_; try simp only [go_sem, qH]) | refine kD ?_ | refine rD ?_ | refine vO (gQ r (by omega)) ?_ | refine vQ (gQ r (by omega)) ?_ | refine vO (kE d (by omega)) ?_ | refine vQ (kE d (by omega)) ?_ | refine vO hi ?_ | refine vQ hi ?_ | refine vO hq ?_ | refine vQ hq ?_ | refine vO (lG r (by omega)) ?_ | refine vQ (lG r (by omega)) ?_ | refine vO (pV d (by omega)) ?_ | refine vQ (pV d (by omega)) ?_ | refine vM (iQ r _ (by omega)) ?_ | refine vM (tZ d _ (by omega)) ?_ | refine vM (iQ X _ (by omega)) ?_ | refine vO (iR X 1 (by omega)) ?_ | refine vQ (iR X 1 (by omega)) ?_ | refine cP (jK r (by omega)) ?_ | refine cP (nA d (by omega)) ?_ | refine aO ?_ | fail)
 exact aA ⟨⟨_, rfl, by simp only [go_sem]⟩, trivial⟩
end Go.Proofs.Yteaaopodnbjpoaa
end
