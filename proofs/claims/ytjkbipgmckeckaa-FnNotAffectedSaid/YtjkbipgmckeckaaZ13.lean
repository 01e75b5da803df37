/- Joined texts. -/
import Derived.Ground.NamesProg
import Derived.Ground.Names2Prog
import Derived.Shelf.Sort.Plain
import Derived.Shelf.Slices.In.SortNone
import Derived.Shelf.Slices.CompactI
import Derived.Shelf.Slices.CompactS
import Derived.Test.YtjkbipgmckeckaaProg
import Derived.Test.YtjkbipgmckeckaaZ08
import Derived.Test.YtjkbipgmckeckaaZ09
import Derived.Sort.Walk0
import Derived.Test.YtjkbipgmckeckaaZ10
import Derived.Test.YtjkbipgmckeckaaZ07
import Derived.Test.YtjkbipgmckeckaaZ06
set_option linter.all false
section
namespace Go.Proofs
open Go.Shelf
def Try.laysSortStr_ren : Go.Shelf.Ren := ⟨fun | 190 => 103 | 125 => 115 | 258 => 114 | 128 => 128 | 129 => 129 | 302 => 119 | 303 => 120 | 304 => 121 | 305 => 122 | 306 => 123 | 307 => 124 | 308 => 125 | 309 => 126 | 310 => 127 | 333 => 130 | 329 => 131 | 330 => 132 | 334 => 133 | 335 => 134 | 336 => 135 | 344 => 136 | n => n, fun | 31 => 50 | 9 => 9 | 3 => 3 | 46 => 109 | 0 => 0 | 51 => 133 | 53 => 135 | 4 => 4 | 183 => 126 | 182 => 125 | 131 => 110 | 5 => 5 | 218 => 136 | 222 => 140 | 228 => 142 | 229 => 143 | n => n, fun | n => n⟩
theorem Try.laysSortStr : Go.Proofs.Lays.n190 Try.prog Try.laysSortStr_ren := {
 mixed := by kernel_rfl
 f125 := Try.func115.trans (congrArg some (by kernel_rfl))
 f128 := Try.func128.trans (congrArg some (by kernel_rfl))
 f129 := Try.func129.trans (congrArg some (by kernel_rfl))
 f190 := Try.func103.trans (congrArg some (by kernel_rfl))
 f258 := Try.func114.trans (congrArg some (by kernel_rfl))
 f302 := Try.func119.trans (congrArg some (by kernel_rfl))
 f303 := Try.func120.trans (congrArg some (by kernel_rfl))
 f304 := Try.func121.trans (congrArg some (by kernel_rfl))
 f305 := Try.func122.trans (congrArg some (by kernel_rfl))
 f306 := Try.func123.trans (congrArg some (by kernel_rfl))
 f307 := Try.func124.trans (congrArg some (by kernel_rfl))
 f308 := Try.func125.trans (congrArg some (by kernel_rfl))
 f309 := Try.func126.trans (congrArg some (by kernel_rfl))
 f310 := Try.func127.trans (congrArg some (by kernel_rfl))
 f329 := Try.func131.trans (congrArg some (by kernel_rfl))
 f330 := Try.func132.trans (congrArg some (by kernel_rfl))
 f333 := Try.func130.trans (congrArg some (by kernel_rfl))
 f334 := Try.func133.trans (congrArg some (by kernel_rfl))
 f335 := Try.func134.trans (congrArg some (by kernel_rfl))
 f336 := Try.func135.trans (congrArg some (by kernel_rfl))
 f344 := Try.func136.trans (congrArg some (by kernel_rfl))
 t0 := Try.underlying0
 a0 := Try.isAgg0
 z0 := Try.sizeOf0
 v0 := Try.zeroValue0
 t3 := Try.underlying3
 a3 := Try.isAgg3
 z3 := Try.sizeOf3
 v3 := Try.zeroValue3
 t4 := Try.underlying4
 a4 := Try.isAgg4
 z4 := Try.sizeOf4
 v4 := Try.zeroValue4
 t5 := Try.underlying5
 a5 := Try.isAgg5
 z5 := Try.sizeOf5
 v5 := Try.zeroValue5
 t9 := Try.underlying9
 a9 := Try.isAgg9
 z9 := Try.sizeOf9
 v9 := Try.zeroValue9
 t31 := Try.underlying50
 a31 := Try.isAgg50
 z31 := Try.sizeOf50
 v31 := Try.zeroValue50
 t46 := Try.underlying109
 a46 := Try.isAgg109
 z46 := Try.sizeOf109
 v46 := Try.zeroValue109
 t51 := Try.underlying133
 a51 := Try.isAgg133
 z51 := Try.sizeOf133
 v51 := Try.zeroValue133
 t53 := Try.underlying135
 a53 := Try.isAgg135
 z53 := Try.sizeOf135
 v53 := Try.zeroValue135
 t131 := Try.underlying110
 a131 := Try.isAgg110
 z131 := Try.sizeOf110
 v131 := Try.zeroValue110
 t182 := Try.underlying125
 a182 := Try.isAgg125
 z182 := Try.sizeOf125
 v182 := Try.zeroValue125
 t183 := Try.underlying126
 a183 := Try.isAgg126
 z183 := Try.sizeOf126
 v183 := Try.zeroValue126
 t218 := Try.underlying136
 a218 := Try.isAgg136
 z218 := Try.sizeOf136
 v218 := Try.zeroValue136
 t222 := Try.underlying140
 a222 := Try.isAgg140
 z222 := Try.sizeOf140
 v222 := Try.zeroValue140
 t228 := Try.underlying142
 a228 := Try.isAgg142
 z228 := Try.sizeOf142
 v228 := Try.zeroValue142
 t229 := Try.underlying143
 a229 := Try.isAgg143
 z229 := Try.sizeOf143
 v229 := Try.zeroValue143 }
def Try.laysCompactStr_ren : Go.Shelf.Ren := ⟨fun | 194 => 104 | n => n, fun | 31 => 50 | 9 => 9 | 3 => 3 | 4 => 4 | 0 => 0 | n => n, fun | n => n⟩
theorem Try.laysCompactStr : Go.Proofs.Lays.n194 Try.prog Try.laysCompactStr_ren := {
 mixed := by kernel_rfl
 f194 := Try.func104.trans (congrArg some (by kernel_rfl))
 t0 := Try.underlying0
 a0 := Try.isAgg0
 z0 := Try.sizeOf0
 v0 := Try.zeroValue0
 t3 := Try.underlying3
 a3 := Try.isAgg3
 z3 := Try.sizeOf3
 v3 := Try.zeroValue3
 t4 := Try.underlying4
 a4 := Try.isAgg4
 z4 := Try.sizeOf4
 v4 := Try.zeroValue4
 t9 := Try.underlying9
 a9 := Try.isAgg9
 z9 := Try.sizeOf9
 v9 := Try.zeroValue9
 t31 := Try.underlying50
 a31 := Try.isAgg50
 z31 := Try.sizeOf50
 v31 := Try.zeroValue50 }
end Go.Proofs
end
section
namespace Go.Proofs.Ytjkbipgmckeckaa
open Go Go.Sx Go.RowKit Go.Proofs
def b0l (l : List Int) : List Int := l.mergeSort fun x y => decide (x ≤ y)
theorem iK {α : Type} [Inhabited α] [DecidableEq α] (d : Array α) : ∀ m, (Lib.compactUpTo d m).length ≤ m
 | 0 => by simp [Lib.compactUpTo]
 | m + 1 => by
  have := iK d m
  rw [Lib.compactUpTo_succ, List.length_append]
  split <;> simp <;> omega
def b0m (l : List Int) : List Int := Lib.compact l
def bl (s : ByteArray) : List UInt8 := s.data.toList
def lb (l : List UInt8) : ByteArray := ⟨l.toArray⟩
theorem a5T (l : List UInt8) : bl (lb l) = l := rfl
theorem a2b (s : ByteArray) : lb (bl s) = s := by cases s; simp [lb, bl]
def iO (l : List (List UInt8)) : List (List UInt8) := l.mergeSort fun x y => decide (x ≤ y)
def lK (l : List ByteArray) : List ByteArray := (iO (l.map bl)).map lb
def zV (l : List ByteArray) : List ByteArray := (Lib.compact (l.map bl)).map lb
theorem uG (l : List ByteArray) : (lK l).length = l.length := by simp [lK, iO, List.length_mergeSort]
theorem a0W (l : List ByteArray) : l.map bX = kG Go.Proofs.encStr (l.map bl) := by
 simp only [kG, List.map_map]
 refine List.map_congr_left fun s _ => ?_
 have h := a2b s
 simp only [lb] at h
 simp only [Function.comp, bX, Go.Proofs.encStr, h]
theorem a3z (l : List (List UInt8)) : (l.map lb).map bX = kG Go.Proofs.encStr l := by
 rw [a0W, List.map_map]
 congr 1
 simp [Function.comp_def, a5T]
theorem qF (x : List UInt8) : scalar (Go.Proofs.encStr x) = true := rfl
theorem xZ (l : List ByteArray) (hl : l.length ≤ 4611686018427387903) : FnI Try.prog 103 9 1 (l.map bX) [] true ((lK l).map bX) := by
 refine ⟨Try.call103, fun V w y S vs hm hrow hnd hlt hargs => ?_⟩
 have hvs : vs = [] := by have := hargs.1; simpa using this
 subst hvs
 rw [lK, a3z]
 rw [a0W] at hrow
 rcases scal_down (e := Go.Proofs.encStr) hrow with ⟨⟨ao, rfl⟩, hn, rfl⟩ | ⟨b, cap, c, rfl, h1, h2, h3, h4, h5, h6, rfl⟩
 ·refine (Any.slices_Sort_string_none Try.laysSortStr ao 0 w).mono ?_
  rintro e w' ⟨rfl, rfl⟩
  exact ⟨_, rfl, fun _ => rfl, ⟨⟨rfl, rfl, rfl, Nat.le_refl _, fun _ _ _ => rfl⟩, [], (by rw [hn] at hrow ⊢; simpa [iO] using hrow), hnd, fun b hb => .inl hb, fun _ => rfl⟩⟩
 ·have hb : b < w.heap.size := (Array.getElem?_eq_some_iff.1 h3).1
  refine (Any.slices_Sort_string Try.laysSortStr b 0 cap (l.map bl) w h5 hb (by simp; omega)).mono ?_
  rintro e w' ⟨rfl, n, os, rfl⟩
  have hsl : (iO (l.map bl)).length = (l.map bl).length := by simp [iO, List.length_mergeSort]
  have hup := a3r (e := Go.Proofs.encStr) (l := iO (l.map bl)) (d := (iO (l.map bl)).toArray) qF h3 h4 h2 (by simp only [List.size_toArray, hsl]; exact h1) rfl (List.prefix_refl _) h6 (n := n) (os := os)
  rw [hsl] at hup
  exact ⟨_, rfl, fun _ => rfl, ⟨hup.2, [b], hup.1, hnd, fun b hb => .inl hb, fun _ => rfl⟩⟩
theorem qG (l : List ByteArray) (hl : l.length ≤ 4611686018427387903) : FnI Try.prog 104 9 1 (l.map bX) [] false ((zV l).map bX) := by
 refine ⟨Try.call104, fun V w y S vs hm hrow hnd hlt hargs => ?_⟩
 have hvs : vs = [] := by have := hargs.1; simpa using this
 subst hvs
 rw [zV, a3z]
 rw [a0W] at hrow
 rcases scal_down (e := Go.Proofs.encStr) hrow with ⟨⟨ao, rfl⟩, hn, rfl⟩ | ⟨b, cap, c, rfl, h1, h2, h3, h4, h5, h6, rfl⟩
 ·refine (Any.slices_Compact_string_empty Try.laysCompactStr ao 0 w).mono ?_
  rintro e w' ⟨rfl, rfl⟩
  exact ⟨_, rfl, fun h => (by cases h), ⟨⟨rfl, rfl, rfl, Nat.le_refl _, fun _ _ _ => rfl⟩, [], (by rw [hn] at hrow ⊢; exact hrow), hnd, fun b hb => .inl hb, fun _ => rfl⟩⟩
 ·have hb : b < w.heap.size := (Array.getElem?_eq_some_iff.1 h3).1
  refine (Any.slices_Compact_string Try.laysCompactStr b 0 cap (l.map bl) w h5 (by simp; omega) h1).mono ?_
  rintro e w' ⟨rfl, n, rfl⟩
  have hle : (Lib.compact (l.map bl)).length ≤ (l.map bl).length := iK _ _
  have hup := a3r (e := Go.Proofs.encStr) (l := Lib.compact (l.map bl)) (d := (Lib.compact (l.map bl) ++ List.replicate ((l.map bl).length - (Lib.compact (l.map bl)).length) []).toArray) (w' := Sort.putRow Go.Proofs.encStr (Sort.ahead w n) b 0 (Lib.compact (l.map bl) ++ List.replicate ((l.map bl).length - (Lib.compact (l.map bl)).length) []).toArray) qF h3 h4 h2 (by simp only [List.size_toArray, List.length_append, List.length_replicate]; omega) (by rw [Sort.grow_empty]) (by simp) h6 (n := n) (os := #[])
  exact ⟨_, rfl, fun h => (by cases h), ⟨hup.2, [b], hup.1, hnd, fun b hb => .inl hb, fun _ => rfl⟩⟩
end Go.Proofs.Ytjkbipgmckeckaa
end
section
set_option maxRecDepth 100000
set_option maxHeartbeats 4000000
namespace Go.Sx
theorem a6Y {P : Program} {C : Ctx} {F : Ex → St → Prop} {st : St} {code : Code} (i id : Nat) {ty sz : Nat} {rows : List (List D)} {lin : Bool} (hi : nth st.t i = .o (.s id)) (hb : bN st.h id = .row ty sz rows lin) (h : WP P C code F ⟨a1q st.t i (.o (.d (.sl rows))), setH st.h id (.frz rows lin)⟩) : WP P C code F st := by
 intro g V a w hr
 obtain ⟨g', V', h1, h2, h3, h4, h5⟩ := hr.hp.frz hr.mod hr.fr.size (aD hb (by simp))
 have hr1 : Rel C g' V' ⟨st.t, setH st.h id (.frz rows lin)⟩ a w := ⟨hr.sl.mono h1 h2, by rw [bE]; exact h4, h3, hr.fr, hr.vw.grow h2 h5⟩
 refine h g' V' a w ⟨⟨by rw [iA]; simpa using hr1.sl.size, fun n s y e1 e2 => ?_, hr1.sl.defers⟩, hr1.hp, hr1.mod, hr1.fr, hr1.vw⟩
 rw [iA, List.getElem?_set] at e1
 by_cases e : i = n
 ·subst e
  rw [if_pos rfl] at e1
  split at e1
  ·rename_i hlt
   cases e1
   have hs : st.t[i]? = some (.o (.s id)) := by
    rw [kC, List.getD_eq_getElem?_getD, List.getElem?_eq_getElem hlt] at hi
    rw [List.getElem?_eq_getElem hlt]
    exact congrArg some hi
   obtain ⟨gh, hgh, hy, _⟩ := hr1.sl.slot i _ y hs e2
   have hf : (setH st.h id (.frz rows lin))[id]? = some (.frz rows lin) := by
    have := aD hb (by simp)
    rw [bE, List.getElem?_set]; simp [(List.getElem?_eq_some_iff.1 this).1]
   obtain ⟨_, S, q1, _⟩ := hr1.hp.hb id _ gh hf hgh
   exact ⟨S, by rw [hy]; exact q1⟩
  ·cases e1
 ·rw [if_neg e] at e1
  exact hr1.sl.slot n s y e1 e2
end Go.Sx
namespace Go.Proofs.Ytjkbipgmckeckaa
open Go Go.Sx Go.RowKit Go.Proofs
theorem qY {α : Type} [Inhabited α] [DecidableEq α] (d : Array α) : ∀ (m i : Nat), i < m → d[i]! ∈ Lib.compactUpTo d m
 | 0, i, h => by omega
 | m + 1, i, h => by
  rw [Lib.compactUpTo_succ]
  by_cases hi : i < m
  ·exact List.mem_append_left _ (qY d m i hi)
  ·have e : i = m := by omega
   subst e
   cases hk : Lib.keeps d i with
   | true => exact List.mem_append_right _ (by simp)
   | false =>
    have h0 : 0 < i := by
     rcases Nat.eq_zero_or_pos i with h | h
     ·subst h; rw [Lib.keeps_lt_one d 0 (by omega)] at hk; cases hk
     ·exact h
    have he : d[i]! = d[i - 1]! := Classical.byContradiction fun hn => by rw [Lib.keeps_pos hn] at hk; cases hk
    rw [he]
    exact List.mem_append_left _ (qY d i (i - 1) (by omega))
theorem a2a {α : Type} [Inhabited α] [DecidableEq α] (zs : List α) (x : α) : x ∈ Lib.compact zs ↔ x ∈ zs := by
 refine ⟨fun h => ?_, fun h => ?_⟩
 ·unfold Lib.compact Lib.compactUpTo at h
  obtain ⟨i, hi, rfl⟩ := List.mem_map.1 h
  have hi' : i < zs.length := List.mem_range.1 (List.mem_filter.1 hi).1
  simp [getElem!_pos, hi']
 ·obtain ⟨i, hi, rfl⟩ := List.mem_iff_getElem.1 h
  have := qY zs.toArray zs.length i hi
  have e : zs.toArray[i]! = zs[i] := by simp [getElem!_pos, hi]
  rw [e] at this
  exact this
def fG (l : List ByteArray) : List ByteArray := zV (lK l)
theorem uE (l : List ByteArray) : (fG l).length ≤ l.length := by
 have := iK ((lK l).map bl).toArray ((lK l).map bl).length
 simp only [fG, zV, Lib.compact, List.length_map, uG] at this ⊢
 exact this
theorem jO (l : List ByteArray) (s : ByteArray) : hasS l s = true ↔ s ∈ l := by
 unfold hasS
 rw [List.any_eq_true]
 constructor
 ·rintro ⟨x, h1, h2⟩; rw [of_decide_eq_true h2] at h1; exact h1
 ·intro h; exact ⟨s, h, by simp⟩
theorem uF (l : List ByteArray) (s : ByteArray) : s ∈ fG l ↔ s ∈ l := by
 have e : (lK l).map bl = iO (l.map bl) := by
  unfold lK
  rw [List.map_map]
  have : (bl ∘ lb) = id := by funext x; exact a5T x
  rw [this, List.map_id]
 unfold fG zV
 rw [e]
 constructor
 ·intro h
  obtain ⟨y, hy, rfl⟩ := List.mem_map.1 h
  rw [a2a, iO, List.mem_mergeSort] at hy
  obtain ⟨z, hz, rfl⟩ := List.mem_map.1 hy
  rw [a2b]; exact hz
 ·intro h
  refine List.mem_map.2 ⟨bl s, ?_, a2b s⟩
  rw [a2a, iO, List.mem_mergeSort]
  exact List.mem_map.2 ⟨s, h, rfl⟩
theorem iD (l : List ByteArray) (hl : l.length ≤ 4300000) : FnC Try.prog 79 [.o (.d (.sl (l.map bX)))] (.o (.w 9 1 ((fG l).map bX))) := by
 refine ent Try.func79 rfl Try.call79 rfl (fun C => ?_); simp only [go_sem, st0, Try.ntmps79]
 have qH := trivial; repeat' (with_reducible first | refine nY ?_ | (refine mX ?_; try simp only [go_sem]) | refine kD ?_ | refine rD ?_ | refine cP (uS l hl) ?_ | refine vI (xZ l (by omega)) ?_ | refine vJ (xZ l (by omega)) ?_ | refine vI (qG (lK l) (by rw [uG]; omega)) ?_ | refine vJ (qG (lK l) (by rw [uG]; omega)) ?_ | refine aO ?_ | fail)
 exact aA ⟨⟨_, rfl, by simp only [go_sem, fG]⟩, trivial⟩
def geS (s : ByteArray) (y : ByteArray) : Bool := !jI y s
def mQ (l : List ByteArray) (s : ByteArray) : List ByteArray := if (l.drop (bS (geS s) l)).head? = some s then l else fA (bS (geS s) l) s l
def a0V (l : List ByteArray) : List ByteArray := l.foldl mQ []
theorem lJ (l : List ByteArray) (s x : ByteArray) : x ∈ mQ l s ↔ x = s ∨ x ∈ l := by
 unfold mQ
 split
 ·rename_i h
  have : s ∈ l.drop (bS (geS s) l) := by
   cases hd : l.drop (bS (geS s) l) with
   | nil => rw [hd] at h; cases h
   | cons y r => rw [hd] at h; simp at h; simp [h]
  have hs := List.mem_of_mem_drop this
  constructor
  ·exact .inr
  ·rintro (rfl | h) <;> first | exact hs | exact h
 ·unfold fA
  conv => rhs; rw [← List.take_append_drop (bS (geS s) l) l]
  simp only [List.mem_append, List.mem_cons]
  constructor
  ·rintro (h | h | h) <;> first | exact .inr (.inl h) | exact .inl h | exact .inr (.inr h)
  ·rintro (h | h | h) <;> first | exact .inr (.inl h) | exact .inl h | exact .inr (.inr h)
theorem a4u (l : List ByteArray) : ∀ (a : List ByteArray) (x : ByteArray), x ∈ l.foldl mQ a ↔ x ∈ a ∨ x ∈ l := by
 induction l with
 | nil => simp
 | cons y l ih =>
  intro a x
  rw [List.foldl_cons, ih, lJ]
  simp only [List.mem_cons]
  constructor
  ·rintro ((h | h) | h) <;> first | exact .inr (.inl h) | exact .inl h | exact .inr (.inr h)
  ·rintro (h | h | h) <;> first | exact .inl (.inr h) | exact .inl (.inl h) | exact .inr h
theorem oM (l : List ByteArray) (x : ByteArray) : x ∈ a0V l ↔ x ∈ l := by rw [a0V, a4u]; simp
end Go.Proofs.Ytjkbipgmckeckaa
end
section
namespace Go.Sx.Clos
section
variable {β : Type} [DecidableEq β]
def Closed (E : List (β × List β)) (S : List β) : Prop := ∀ e ∈ E, (∃ x ∈ e.2, x ∈ S) → e.1 ∈ S
def wsm (w : β → Nat) : List β → Nat
 | [] => 0
 | x :: l => w x + wsm w l
def fC (w : β → Nat) : List (β × List β) → List β → Nat
 | [], _ => 0
 | e :: E, S => (if e.1 ∈ S then 0 else w e.1) + fC w E S
theorem uU (w : β → Nat) (E : List (β × List β)) {S T : List β} (h : ∀ x ∈ S, x ∈ T) : fC w E T ≤ fC w E S := by
 induction E with
 | nil => simp [fC]
 | cons e E ih =>
  simp only [fC]
  by_cases h1 : e.1 ∈ S
  ·have h2 := h _ h1; simp [h1, h2]; exact ih
  ·by_cases h2 : e.1 ∈ T
   ·simp [h1, h2]; omega
   ·simp [h1, h2]; exact ih
theorem tZ (w : β → Nat) (E : List (β × List β)) {S T : List β} (h : ∀ x ∈ S, x ∈ T) {y : β} (hy : ∃ e ∈ E, e.1 = y) (h1 : y ∈ T) (h2 : ¬ y ∈ S) : fC w E T + w y ≤ fC w E S := by
 induction E with
 | nil => obtain ⟨e, he, _⟩ := hy; simp at he
 | cons e E ih =>
  obtain ⟨e', he', rfl⟩ := hy
  rcases List.mem_cons.1 he' with rfl | hm
  ·have := uU w E h
   simp only [fC]
   simp [h1, h2]; omega
  ·have := ih ⟨e', hm, rfl⟩
   simp only [fC]
   by_cases h3 : e.1 ∈ S
   ·have h4 := h _ h3; simp [h3, h4]; exact this
   ·by_cases h4 : e.1 ∈ T
    ·simp [h3, h4]; omega
    ·simp [h3, h4]; omega
theorem a4q (E : List (β × List β)) (S : List β) : fC (fun _ => 1) E S ≤ E.length := by
 induction E with
 | nil => simp [fC]
 | cons e E ih => simp only [fC, List.length_cons]; split <;> omega
variable (put : List β → β → List β)
def a4r (name : β) (out asks : List β) : List β := asks.foldl (fun o a => if a ∈ o then put o name else o) out
def round (E : List (β × List β)) (S : List β) : List β := E.foldl (fun o e => a4r put e.1 o e.2) S
def fK (E : List (β × List β)) : Nat → List β → List β
 | 0, S => S
 | n + 1, S => round put E (fK E n S)
variable {put} (hput : ∀ l s x, x ∈ put l s ↔ x = s ∨ x ∈ l)
include hput
theorem sS (name : β) (asks : List β) : ∀ (out : List β) (x : β), x ∈ a4r put name out asks ↔ x ∈ out ∨ (x = name ∧ ∃ a ∈ asks, a ∈ out) := by
 induction asks with
 | nil => intro out x; simp [a4r]
 | cons a asks ih =>
  intro out x
  have ih' := ih (if a ∈ out then put out name else out) x
  unfold a4r at *
  rw [List.foldl_cons, ih']
  by_cases h : a ∈ out
  ·simp only [h, if_true, hput]
   constructor
   ·rintro ((rfl | h1) | ⟨rfl, _⟩)
    ·exact .inr ⟨rfl, a, List.mem_cons_self, h⟩
    ·exact .inl h1
    ·exact .inr ⟨rfl, a, List.mem_cons_self, h⟩
   ·rintro (h1 | ⟨rfl, _⟩)
    ·exact .inl (.inr h1)
    ·exact .inl (.inl rfl)
  ·simp only [h, if_false]
   constructor
   ·rintro (h1 | ⟨rfl, b, hb, h2⟩)
    ·exact .inl h1
    ·exact .inr ⟨rfl, b, List.mem_cons_of_mem _ hb, h2⟩
   ·rintro (h1 | ⟨rfl, b, hb, h2⟩)
    ·exact .inl h1
    ·rcases List.mem_cons.1 hb with rfl | hb
     ·exact absurd h2 h
     ·exact .inr ⟨rfl, b, hb, h2⟩
theorem pI (E : List (β × List β)) : ∀ (S : List β), ∀ x ∈ S, x ∈ round put E S := by
 induction E with
 | nil => intro S x h; exact h
 | cons e E ih =>
  intro S x h
  exact ih _ x ((sS hput e.1 e.2 S x).2 (.inl h))
theorem uV (E : List (β × List β)) {T : List β} (hT : Closed E T) : ∀ (S : List β), (∀ x ∈ S, x ∈ T) → ∀ x ∈ round put E S, x ∈ T := by
 induction E with
 | nil => intro S h; exact h
 | cons e E ih =>
  intro S h
  refine ih (fun e' he' => hT e' (List.mem_cons_of_mem _ he')) _ (fun x hx => ?_)
  rcases (sS hput e.1 e.2 S x).1 hx with h1 | ⟨rfl, a, ha, h2⟩
  ·exact h x h1
  ·exact hT e List.mem_cons_self ⟨a, ha, h a h2⟩
theorem a2T (E : List (β × List β)) : ∀ (S : List β) (e : β × List β), e ∈ E → (∃ x ∈ e.2, x ∈ S) → e.1 ∈ round put E S := by
 induction E with
 | nil => intro S e he; simp at he
 | cons e0 E ih =>
  intro S e he h
  rcases List.mem_cons.1 he with rfl | he
  ·exact pI hput E _ _ ((sS hput e.1 e.2 S e.1).2 (.inr ⟨rfl, h⟩))
  ·obtain ⟨x, hx, hs⟩ := h
   exact ih _ e he ⟨x, hx, (sS hput e0.1 e0.2 S x).2 (.inl hs)⟩
theorem round_new (E : List (β × List β)) : ∀ (S : List β) (x : β), x ∈ round put E S → x ∈ S ∨ ∃ e ∈ E, e.1 = x := by
 induction E with
 | nil => intro S x h; exact .inl h
 | cons e E ih =>
  intro S x h
  rcases ih _ x h with h | ⟨e', he', rfl⟩
  ·rcases (sS hput e.1 e.2 S x).1 h with h | ⟨rfl, _⟩
   ·exact .inl h
   ·exact .inr ⟨e, List.mem_cons_self, rfl⟩
  ·exact .inr ⟨e', List.mem_cons_of_mem _ he', rfl⟩
theorem xW (E : List (β × List β)) (S : List β) : ∀ (n : Nat), ∀ x ∈ S, x ∈ fK put E n S
 | 0, x, h => h
 | n + 1, x, h => pI hput E _ x (xW E S n x h)
theorem sU (E : List (β × List β)) {S T : List β} (hT : Closed E T) (h : ∀ x ∈ S, x ∈ T) : ∀ (n : Nat), ∀ x ∈ fK put E n S, x ∈ T
 | 0, x, hx => h x hx
 | n + 1, x, hx => uV hput E hT _ (sU E hT h n) x hx
theorem rounds_count (E : List (β × List β)) (S : List β) : ∀ (n : Nat), Closed E (fK put E n S) ∨ fC (fun _ => 1) E (fK put E n S) + n ≤ E.length
 | 0 => .inr (by simpa [fK] using a4q E S)
 | n + 1 => by
  rcases rounds_count E S n with h | h
  ·refine .inl (fun e he hx => ?_)
   obtain ⟨x, hx, hs⟩ := hx
   have hs' := uV hput E h _ (fun y hy => hy) x hs
   exact pI hput E _ _ (h e he ⟨x, hx, hs'⟩)
  ·by_cases hc : Closed E (fK put E (n + 1) S)
   ·exact .inl hc
   ·refine .inr ?_
    have hn : ∃ y, y ∈ round put E (fK put E n S) ∧ ¬ y ∈ fK put E n S := Classical.byContradiction fun hno => hc (fun e he hx => by
     obtain ⟨x, hx, hs⟩ := hx
     have hs' : x ∈ fK put E n S := Classical.byContradiction fun h' => hno ⟨x, hs, h'⟩
     exact a2T hput E _ e he ⟨x, hx, hs'⟩)
    obtain ⟨y, h1, h2⟩ := hn
    have hy : ∃ e ∈ E, e.1 = y := by
     rcases round_new hput E _ y h1 with h | h
     ·exact absurd h h2
     ·exact h
    have := tZ (fun _ => 1) E (pI hput E (fK put E n S)) hy h1 h2
    simp only [fK]
    omega
omit hput in
theorem a6W {P : List β → Prop} {Nm : β → Prop} (hP : ∀ o n, P o → Nm n → P (put o n)) (name : β) (hn : Nm name) (asks : List β) : ∀ out, P out → P (a4r put name out asks) := by
 induction asks with
 | nil => intro out h; exact h
 | cons a asks ih =>
  intro out h
  unfold a4r at *
  rw [List.foldl_cons]
  refine ih _ ?_
  split
  ·exact hP _ _ h hn
  ·exact h
omit hput in
theorem a4s {P : List β → Prop} {Nm : β → Prop} (hP : ∀ o n, P o → Nm n → P (put o n)) (E : List (β × List β)) : (∀ e ∈ E, Nm e.1) → ∀ S, P S → P (round put E S) := by
 induction E with
 | nil => intro _ S h; exact h
 | cons e E ih => intro hn S h; exact ih (fun e he => hn e (List.mem_cons_of_mem _ he)) _ (a6W hP e.1 (hn e List.mem_cons_self) e.2 S h)
omit hput in
theorem xX {P : List β → Prop} {Nm : β → Prop} (hP : ∀ o n, P o → Nm n → P (put o n)) (E : List (β × List β)) (hn : ∀ e ∈ E, Nm e.1) {S : List β} (h : P S) : ∀ n, P (fK put E n S)
 | 0 => h
 | n + 1 => a4s hP E hn _ (xX hP E hn h n)
theorem yO (E : List (β × List β)) (S : List β) : Closed E (fK put E (E.length + 1) S) := by
 rcases rounds_count hput E S (E.length + 1) with h | h
 ·exact h
 ·omega
theorem a1Y (E : List (β × List β)) {S O : List β} (h1 : ∀ x ∈ S, x ∈ O) (h2 : Closed E O) (h3 : ∀ T : List β, Closed E T → (∀ x ∈ S, x ∈ T) → ∀ x ∈ O, x ∈ T) (x : β) : x ∈ O ↔ x ∈ fK put E (E.length + 1) S :=
 ⟨fun h => h3 _ (yO hput E S) (xW hput E S _) x h, fun h => sU hput E h2 h1 _ x h⟩
omit hput
theorem oK {lt : β → β → Prop} (hi : ∀ x, ¬ lt x x) (ht : ∀ x y z, lt x y → lt y z → lt x z) : ∀ {l m : List β}, l.Pairwise lt → m.Pairwise lt → (∀ x, x ∈ l ↔ x ∈ m) → l = m
 | [], [], _, _, _ => rfl
 | [], b :: m, _, _, h => by have := (h b).2 List.mem_cons_self; simp at this
 | a :: l, [], _, _, h => by have := (h a).1 List.mem_cons_self; simp at this
 | a :: l, b :: m, h1, h2, h => by
  rw [List.pairwise_cons] at h1 h2
  have hab : a = b := by
   rcases List.mem_cons.1 ((h a).1 List.mem_cons_self) with e | e
   ·exact e
   ·rcases List.mem_cons.1 ((h b).2 List.mem_cons_self) with e' | e'
    ·exact e'.symm
    ·exact absurd (ht _ _ _ (h1.1 b e') (h2.1 a e)) (hi a)
  subst hab
  congr 1
  refine oK hi ht h1.2 h2.2 (fun x => ⟨fun hx => ?_, fun hx => ?_⟩)
  ·rcases List.mem_cons.1 ((h x).1 (List.mem_cons_of_mem _ hx)) with e | e
   ·subst e; exact absurd (h1.1 x hx) (hi x)
   ·exact e
  ·rcases List.mem_cons.1 ((h x).2 (List.mem_cons_of_mem _ hx)) with e | e
   ·subst e; exact absurd (h2.1 x hx) (hi x)
   ·exact e
end
end Go.Sx.Clos
namespace Go.Proofs.Ytjkbipgmckeckaa
open Go Go.Sx Go.RowKit Go.Proofs
theorem a8n {x y : ByteArray} (h : bl x = bl y) : x = y := by rw [← a2b x, ← a2b y, h]
def ltS (x y : ByteArray) : Prop := bl x < bl y
theorem zU (x y : ByteArray) : jI x y = true ↔ ltS x y := by
 unfold jI ltS bl
 rw [Go.Proofs.bytesLess_eq, decide_eq_true_eq, ByteArray.toList_eq, ByteArray.toList_eq]
theorem xY (x : ByteArray) : ¬ ltS x x := List.lt_irrefl (bl x)
theorem uC (x y z : ByteArray) (h : ltS x y) (k : ltS y z) : ltS x z := List.lt_trans h k
theorem a5S {x y : List UInt8} (h : x ≤ y) (k : x ≠ y) : x < y := Classical.byContradiction fun hn => k (List.le_antisymm h (List.not_lt.1 hn))
theorem a6X {x y : ByteArray} (h : ¬ ltS x y) (k : x ≠ y) : ltS y x := a5S (List.not_lt.1 h) fun e => k (a8n e).symm
theorem a4t (y s : ByteArray) (l : List ByteArray) : mQ (y :: l) s = if jI y s then y :: mQ l s else if y = s then y :: l else s :: y :: l := by
 unfold mQ
 cases h : jI y s with
 | true =>
  have hg : geS s y = false := by simp [geS, h]
  simp only [bS, hg, Bool.false_eq_true, if_false, List.drop_succ_cons, if_true]
  split
  ·rfl
  ·simp [fA]
 | false =>
  have hg : geS s y = true := by simp [geS, h]
  simp only [bS, hg, if_true, List.drop_zero, List.head?_cons, Bool.false_eq_true, if_false, Option.some.injEq]
  split
  ·rfl
  ·simp [fA]
theorem jZ (s : ByteArray) : ∀ {l : List ByteArray}, l.Pairwise ltS → (mQ l s).Pairwise ltS
 | [], _ => by simp [mQ, bS, fA]
 | y :: l, h => by
  rw [a4t]
  rw [List.pairwise_cons] at h
  split
  ·rename_i hlt
   rw [List.pairwise_cons]
   refine ⟨fun x hx => ?_, jZ s h.2⟩
   rcases (lJ l s x).1 hx with rfl | hx
   ·exact (zU _ _).1 hlt
   ·exact h.1 x hx
  ·rename_i hlt
   split
   ·exact List.pairwise_cons.2 h
   ·rename_i hne
    have hs : ltS s y := a6X (fun hh => hlt ((zU _ _).2 hh)) hne
    refine List.pairwise_cons.2 ⟨fun x hx => ?_, List.pairwise_cons.2 h⟩
    rcases List.mem_cons.1 hx with rfl | hx
    ·exact hs
    ·exact uC _ _ _ hs (h.1 x hx)
theorem a0T (l : List ByteArray) : ∀ {a : List ByteArray}, a.Pairwise ltS → (l.foldl mQ a).Pairwise ltS := by
 induction l with
 | nil => intro a h; exact h
 | cons y l ih => intro a h; exact ih (jZ y h)
theorem a1Z (l : List ByteArray) : (a0V l).Pairwise ltS := a0T l List.Pairwise.nil
theorem qE (d : Array (List UInt8)) (hs : ∀ i j, i < j → j < d.size → d[i]! ≤ d[j]!) : ∀ m, m ≤ d.size → (Lib.compactUpTo d m).Pairwise (fun x y => x < y) ∧ ∀ x ∈ Lib.compactUpTo d m, 0 < m ∧ x ≤ d[m - 1]!
 | 0, _ => by simp [Lib.compactUpTo]
 | m + 1, hm => by
  obtain ⟨h1, h2⟩ := qE d hs m (by omega)
  rw [Lib.compactUpTo_succ]
  have hup : ∀ x ∈ Lib.compactUpTo d m, x ≤ d[m]! := fun x hx => by
   obtain ⟨h0, h3⟩ := h2 x hx
   exact List.le_trans h3 (hs (m - 1) m (by omega) (by omega))
  refine ⟨?_, fun x hx => ⟨by omega, ?_⟩⟩
  ·cases hk : Lib.keeps d m with
   | false => simpa using h1
   | true =>
    rw [List.pairwise_append]
    refine ⟨h1, by simp, fun x hx y hy => ?_⟩
    simp only [if_true, List.mem_singleton] at hy
    subst hy
    obtain ⟨h0, h3⟩ := h2 x hx
    have hne : d[m]! ≠ d[m - 1]! := fun e => by rw [Lib.keeps_neg h0 e] at hk; cases hk
    have hle := hs (m - 1) m (by omega) (by omega)
    refine a5S (hup x hx) fun e => hne ?_
    rw [e] at h3
    exact List.le_antisymm h3 hle
  ·rcases List.mem_append.1 hx with h | h
   ·exact hup x h
   ·split at h
    ·simp only [List.mem_singleton] at h; subst h; exact List.le_refl _
    ·simp at h
theorem a0U (l : List ByteArray) : (fG l).Pairwise ltS := by
 have e : (lK l).map bl = iO (l.map bl) := by
  unfold lK
  rw [List.map_map]
  have : (bl ∘ lb) = id := by funext x; exact a5T x
  rw [this, List.map_id]
 unfold fG zV
 rw [e, List.pairwise_map]
 have hs : (iO (l.map bl)).Pairwise (fun a b => decide (a ≤ b) = true) := by
  refine List.pairwise_mergeSort (le := fun x y : List UInt8 => decide (x ≤ y)) (fun a b c h k => decide_eq_true (List.le_trans (of_decide_eq_true h) (of_decide_eq_true k))) (fun a b => ?_) (l.map bl)
  by_cases h : a ≤ b
  ·simp [h]
  ·have : b ≤ a := List.le_of_lt (List.not_le.1 h)
   simp [this]
 have h := (qE (iO (l.map bl)).toArray (fun i j hij hj => by
  have hj' : j < (iO (l.map bl)).length := by simpa using hj
  have hi' : i < (iO (l.map bl)).length := by omega
  have := List.pairwise_iff_getElem.1 hs i j hi' hj' hij
  simpa [getElem!_pos, hi', hj'] using of_decide_eq_true this) (iO (l.map bl)).length (by simp)).1
 exact h.imp (fun {x y} h => by show bl (lb x) < bl (lb y); exact h)
end Go.Proofs.Ytjkbipgmckeckaa
end
section
set_option maxRecDepth 100000
set_option maxHeartbeats 4000000
namespace Go.Proofs.Ytjkbipgmckeckaa
open Go Go.Sx Go.RowKit Go.Proofs
def attrNs (l : List TAttr) : List ByteArray := l.map TAttr.fName
theorem gX (l : List TAttr) : (attrNs l).length = l.length := by simp [attrNs]
theorem lM (x : TFile) (hl : x.fAttrs.length ≤ 4300000) : FnC Try.prog 80 [cK x] (.o (.w 9 1 ((attrNs x.fAttrs).map bX))) := by
 refine ent Try.func80 rfl Try.call80 rfl (fun C => ?_); simp only [go_sem, st0, Try.ntmps80]
 refine aP ?_
 generalize x.fAttrs = l at *
 refine dD (α := Nat) (fun k => [(3, .o (.s 1)), (6, .o .u), (10, oi k)]) (fun k => [(1, .row 9 1 ((attrNs (l.take k)).map bX) true)]) (fun k => k ≤ l.length) (fun k => l.length - k) 0 (fun _ => ?_) ?_ ?_ (fun k hk => ?_)
 ·simp only [go_sem]
 ·simp only [go_sem]; simp [attrNs]
 ·simp
 ·simp only [go_sem]
  refine aP ?_
  refine cnd rfl (fun h1 => ?_) (fun h1 => ?_)
  ·simp only [decide_eq_true_eq, Int.ofNat_lt] at h1
   have ht : attrNs (l.take (k + 1)) = attrNs (l.take k) ++ [l[k].fName] := by simp only [attrNs, List.take_succ_eq_append_getElem h1, List.map_append, List.map_cons, List.map_nil]
   have hlen : (attrNs (l.take k)).length = k := by rw [gX]; simp; omega
   have q0 := @h1; have q1 := @hlen; refine jR ?_
   refine aR (k + 1) ?_ ?_ ?_
   ·simp only [go_sem, ht, List.map_append]; simp
   ·omega
   ·omega
  ·simp only [decide_eq_false_iff_not] at h1
   have e : k = l.length := by omega
   subst e
   refine aP ?_
   exact aA ⟨⟨_, rfl, by simp only [go_sem, List.take_length]⟩, trivial⟩
def eqV (x v : TValue) : Bool := decide (x.fKind = v.fKind) && (decide (x.fInt = v.fInt) && decide (x.fStr = v.fStr))
def a0X (a b : TFile) (n : ByteArray) : Bool := !(eqV (bB n a.fAttrs) (bB n b.fAttrs))
def chL (a b : TFile) (l : List ByteArray) : List ByteArray := l.filter (a0X a b)
theorem a3A (a b : TFile) (l : List ByteArray) : (chL a b l).length ≤ l.length := List.length_filter_le _ _
def chg (a b : TFile) : List ByteArray := chL a b (attrNs a.fAttrs ++ attrNs b.fAttrs)
theorem a5Y (a b : TFile) (l : List ByteArray) (k : Nat) (h : k < l.length) : chL a b (l.take (k + 1)) = chL a b (l.take k) ++ (if a0X a b l[k] then [l[k]] else []) := by
 simp only [chL, List.take_succ_eq_append_getElem h, List.filter_append, List.filter_cons, List.filter_nil]
theorem yB (a b : TFile) (h : bK a + bK b ≤ 4300000) : FnC Try.prog 47 [cK a, cK b] (.o (.w 9 1 ((fG (chg a b)).map bX))) := by
 have ha : a.fAttrs.length + b.fAttrs.length ≤ 4300000 := by unfold bK aW at h; omega
 refine ent Try.func47 rfl Try.call47 rfl (fun C => ?_); simp only [go_sem, st0, Try.ntmps47]
 have qH := aI @a7J (aI @a5e @gX); repeat' (with_reducible first | refine nY ?_ | (refine mX ?_; try simp only [go_sem, qH]) | refine kD ?_ | (apply rE [1,3,4] [] [0,2,6] [0,2,6] ((.c 1 [] [2,6] (.c 3 [] [6] (.c 4 [5] [5,6] .n .n) .n) .n)) (by simp only [go_sem]; rfl) (by simp only [go_sem]; rfl) (by simp only [go_sem]; rfl) (by decide +kernel); (focus simp only [go_sem]; done)) | exact fB | refine dM (uX ?_) ?_ | refine dN (aX ?_) ?_ | refine dO (aX ?_) ?_ | exact dL | exact oH | exact uB | refine rD ?_ | refine cP (lM a (by omega)) ?_ | refine cP (lM b (by omega)) ?_ | refine aO ?_ | fail)
 have hlenN : (attrNs a.fAttrs ++ attrNs b.fAttrs).length = a.fAttrs.length + b.fAttrs.length := by rw [List.length_append, gX, gX]
 rw [← hlenN]
 simp only [← List.map_append]
 unfold chg
 have hN : (attrNs a.fAttrs ++ attrNs b.fAttrs).length ≤ 4300000 := by omega
 generalize attrNs a.fAttrs ++ attrNs b.fAttrs = N at *
 refine a6Y 13 3 rfl rfl ?_
 simp only [go_sem]
 refine dD (α := Nat) (fun k => [(5, .o (.s 2)), (8, .o .u), (15, oi k)]) (fun k => [(2, .row 9 1 ((chL a b (N.take k)).map bX) true)]) (fun k => k ≤ N.length) (fun k => N.length - k) 0 (fun _ => ?_) ?_ ?_ (fun k hk => ?_)
 ·simp only [go_sem]
 ·simp only [go_sem]; simp [chL]
 ·simp
 ·simp only [go_sem]
  refine aP ?_
  have hlen : (chL a b (N.take k)).length ≤ 4300000 := by have h2 := a3A a b (N.take k); simp at h2; omega
  refine cnd rfl (fun h1 => ?_) (fun h1 => ?_)
  ·simp only [decide_eq_true_eq, Int.ofNat_lt] at h1
   have ht := a5Y a b N k h1
   have hl1 : (chL a b (N.take k)).length + 1 ≤ 140737488355328 := by omega
   have hl2 : ((chL a b (N.take k)).length + 1) * 16 ≤ 140737488355328 := by omega
   have q0 := @h1; refine a8G (dV a N[k] (by omega)) (dV b N[k] (by omega)) ?_
   refine cnd (b := a0X a b N[k]) rfl (fun hv => ?_) (fun hv => ?_)
   ·rw [if_pos hv] at ht
    have q0 := @h1; refine jQ ?_
    refine aR (k + 1) ?_ ?_ ?_
    ·simp only [go_sem, ht, List.map_append]; simp
    ·omega
    ·omega
   ·rw [if_neg (by simp [hv]), List.append_nil] at ht
    have q0 := @h1; refine jQ ?_
    refine aR (k + 1) ?_ ?_ ?_
    ·simp only [go_sem, ht]; simp
    ·omega
    ·omega
  ·simp only [decide_eq_false_iff_not] at h1
   have e : k = N.length := by omega
   subst e
   rw [List.take_length] at *
   refine kY (iD (chL a b N) hlen) ?_
   exact aA ⟨⟨_, rfl, by simp only [go_sem, List.take_length]⟩, trivial⟩
def isA (n : TNode) : Bool := decide (2 ≤ n.fOp) && decide (n.fOp ≤ 4)
def qA (q : List TNode) : List ByteArray := (q.filter isA).map TNode.fName
theorem a5U (q : List TNode) : (qA q).length ≤ q.length := by simp only [qA, List.length_map]; exact List.length_filter_le _ _
theorem a6Z (q : List TNode) (k : Nat) (h : k < q.length) : qA (q.take (k + 1)) = qA (q.take k) ++ (if isA q[k] then [q[k].fName] else []) := by
 simp only [qA, List.take_succ_eq_append_getElem h, List.filter_append, List.map_append, List.filter_cons, List.filter_nil]
 cases isA q[k] <;> rfl
theorem a4v (q : List TNode) (hl : q.length ≤ 4300000) : FnC Try.prog 48 [.o (.d (.sl (q.map bQ)))] (.o (.w 9 1 ((fG (qA q)).map bX))) := by
 refine ent Try.func48 rfl Try.call48 rfl (fun C => ?_); simp only [go_sem, st0, Try.ntmps48]
 refine aP ?_
 refine dD (α := Nat) (fun k => [(3, .o (.s 0)), (6, .o .u), (9, oi k)]) (fun k => [(0, .row 9 1 ((qA (q.take k)).map bX) true)]) (fun k => k ≤ q.length) (fun k => q.length - k) 0 (fun _ => ?_) ?_ ?_ (fun k hk => ?_)
 ·simp only [go_sem]
 ·simp only [go_sem]; simp [qA]
 ·simp
 ·simp only [go_sem]
  refine aP ?_
  have hlen : (qA (q.take k)).length ≤ 4300000 := by have h2 := a5U (q.take k); simp at h2; omega
  refine cnd rfl (fun h1 => ?_) (fun h1 => ?_)
  ·simp only [decide_eq_true_eq, Int.ofNat_lt] at h1
   have ht := a6Z q k h1
   have hl1 : (qA (q.take k)).length + 1 ≤ 140737488355328 := by omega
   have hl2 : ((qA (q.take k)).length + 1) * 16 ≤ 140737488355328 := by omega
   by_cases c2 : q[k].fOp = 2
   ·rw [if_pos (by simp [isA, c2])] at ht
    have q0 := @h1; have q1 := @c2; have q2 := @decide_true; refine a0B ?_
    refine aR (k + 1) ?_ ?_ ?_
    ·simp only [go_sem, ht, List.map_append]; simp
    ·omega
    ·omega
   by_cases c3 : q[k].fOp = 3
   ·rw [if_pos (by simp [isA, c3])] at ht
    have q0 := @h1; have q1 := @c2; have q2 := @c3; have q3 := @decide_true; have q4 := @decide_false; refine a6D ?_
    refine aR (k + 1) ?_ ?_ ?_
    ·simp only [go_sem, ht, List.map_append]; simp
    ·omega
    ·omega
   by_cases c4 : q[k].fOp = 4
   ·rw [if_pos (by simp [isA, c4])] at ht
    have q0 := @h1; have q1 := @c2; have q2 := @c3; have q3 := @c4; have q4 := @decide_true; have q5 := @decide_false; refine a7M ?_
    refine aR (k + 1) ?_ ?_ ?_
    ·simp only [go_sem, ht, List.map_append]; simp
    ·omega
    ·omega
   ·rw [if_neg (by simp only [isA, Bool.and_eq_true, decide_eq_true_eq]; omega), List.append_nil] at ht
    have q0 := @h1; have q1 := @c2; have q2 := @c3; have q3 := @c4; have q4 := @decide_true; have q5 := @decide_false; refine a7M ?_
    refine aR (k + 1) ?_ ?_ ?_
    ·simp only [go_sem, ht]; simp
    ·omega
    ·omega
  ·simp only [decide_eq_false_iff_not] at h1
   have e : k = q.length := by omega
   subst e
   rw [List.take_length] at *
   refine kY (iD (qA q) hlen) ?_
   exact aA ⟨⟨_, rfl, by simp only [go_sem, List.take_length]⟩, trivial⟩
def a5V (q : List TNode) : Bool := q.any fun n => decide (n.fOp = 9)
theorem a7a (attrs : List ByteArray) (s : ByteArray) (hl : attrs.length ≤ 4300000) : FnC Try.prog 50 [os s, .o (.q [.sl (attrs.map bX)])] (ob (hasS attrs s)) := by
 refine ent Try.func50 rfl Try.call50 rfl (fun C => ?_); simp only [go_sem, st0, Try.ntmps50]
 refine kY (iQ attrs s hl) ?_
 exact aA ⟨⟨_, rfl, by simp only [go_sem]⟩, trivial⟩
theorem a7b (n : TNode) : FnC Try.prog 53 [zN n] (ob (decide (n.fOp = 9))) := by
 refine ent Try.func53 rfl Try.call53 rfl (fun C => ?_); simp only [go_sem, st0, Try.ntmps53]
 refine aP ?_
 exact aA ⟨⟨_, rfl, by simp only [go_sem]⟩, trivial⟩
theorem sV (f : Nat) (p : TNode → Bool) (l : List TNode) (hf : ∀ s ∈ l, FnC Try.prog f [zN s] (ob (p s))) (hl : l.length ≤ 8388608) : FnC Try.prog 84 [.o (.d (.sl (l.map bQ))), .o (.f f [])] (oi (dC p l 0)) := by
 refine ent Try.func84 rfl Try.call84 rfl (fun C => ?_); simp only [go_sem, st0, Try.ntmps84]
 refine aP ?_
 refine dD (α := Nat) (fun k => [(8, oi k)]) (fun _ => []) (fun k => k ≤ l.length ∧ dC p l 0 = dC p (l.drop k) k) (fun k => l.length - k) 0 (fun _ => ?_) ?_ ?_ (fun k hk => ?_)
 ·simp only [go_sem]
 ·simp only [go_sem]; simp
 ·simp
 ·obtain ⟨hk, hq⟩ := hk
  simp only [go_sem]
  refine aP ?_
  refine cnd rfl (fun h => ?_) (fun h => ?_)
  ·simp only [decide_eq_true_eq, Int.ofNat_lt] at h
   have hd := List.drop_eq_getElem_cons h
   rw [hd, dC] at hq
   have q0 := @h; refine nR (hf l[k] (List.getElem_mem h)) ?_
   refine cnd rfl (fun h2 => ?_) (fun h2 => ?_)
   ·refine aP ?_
    exact aA ⟨⟨_, rfl, by simp only [go_sem, hq, h2]⟩, trivial⟩
   ·refine aP ?_
    refine aR (k + 1) ?_ ?_ ?_
    ·simp only [go_sem]; simp
    ·rw [hq, h2]; exact ⟨h, by simp⟩
    ·omega
  ·simp only [decide_eq_false_iff_not] at h
   have e : k = l.length := by omega
   subst e
   simp only [List.drop_length, dC] at hq
   refine aP ?_
   exact aA ⟨⟨_, rfl, by simp only [go_sem, hq]⟩, trivial⟩
theorem oN (f : Nat) (p : TNode → Bool) (l : List TNode) (hf : ∀ s ∈ l, FnC Try.prog f [zN s] (ob (p s))) (hl : l.length ≤ 8388608) : FnC Try.prog 52 [.o (.d (.sl (l.map bQ))), .o (.f f [])] (ob (l.any p)) := by
 refine ent Try.func52 rfl Try.call52 rfl (fun C => ?_); simp only [go_sem, st0, Try.ntmps52]
 refine kY (sV f p l hf hl) ?_
 exact aA ⟨⟨_, rfl, by simp only [go_sem, nU]⟩, trivial⟩
theorem uH (f : Nat) (c : List D) (p : ByteArray → Bool) (l : List ByteArray) (hf : ∀ s ∈ l, FnC Try.prog f [os s, .o (.q c)] (ob (p s))) (hl : l.length ≤ 4300000) : FnC Try.prog 49 [.o (.d (.sl (l.map bX))), .o (.f f [c])] (ob (l.any p)) := by
 refine ent Try.func49 rfl Try.call49 rfl (fun C => ?_); simp only [go_sem, st0, Try.ntmps49]
 refine kY (pY f c p l hf hl) ?_
 exact aA ⟨⟨_, rfl, by simp only [go_sem, nU]⟩, trivial⟩
theorem mR (q : List TNode) (hl : q.length ≤ 4300000) : FnC Try.prog 48 [.o (.d (.sl (q.map bQ)))] (.o (.d (.sl ((fG (qA q)).map bX)))) := (a4v q hl).pu (by simp only [go_sem, and_self])
theorem vD (a b : TFile) (h : bK a + bK b ≤ 4300000) : FnC Try.prog 47 [cK a, cK b] (.o (.d (.sl ((fG (chg a b)).map bX)))) := (yB a b h).pu (by simp only [go_sem, and_self])
def a7c (ch qa : List ByteArray) : Bool := qa.any (hasS ch)
theorem a5W (ch qa : List ByteArray) : (fG ch).any (hasS (fG qa)) = a7c ch qa := by
 rw [Bool.eq_iff_iff]
 simp only [a7c, List.any_eq_true, jO, uF]
 constructor <;> rintro ⟨x, h1, h2⟩ <;> exact ⟨x, h2, h1⟩
def affB (a b : TFile) (d : TDir) : Bool := a7c (chg a b) (qA d.fQuery) || (a5V d.fQuery && !decide (a.fLink = b.fLink))
def yA (a b : TFile) (l : List TDir) : List ByteArray := (l.filter (affB a b)).map TDir.fName
def affD (a b : TFile) (l : List TDir) : List ByteArray := if a.fID = b.fID then yA a b l else lF l
theorem a5X (a b : TFile) (l : List TDir) : (yA a b l).length ≤ l.length := by simp only [yA, List.length_map]; exact List.length_filter_le _ _
theorem a4w (a b : TFile) (l : List TDir) (k : Nat) (h : k < l.length) : yA a b (l.take (k + 1)) = yA a b (l.take k) ++ (if affB a b l[k] then [l[k].fName] else []) := by
 simp only [yA, List.take_succ_eq_append_getElem h, List.filter_append, List.map_append, List.filter_cons, List.filter_nil]
 cases affB a b l[k] <;> rfl
theorem a7m (l : List TDir) (k : Nat) (h : k < l.length) : l[k].fQuery.length ≤ gJ l := by
 have h1 := kZ a2K l h
 have h2 : l[k].fQuery.length ≤ a2K l[k] := by unfold a2K dB; omega
 unfold gJ
 omega
theorem a7d (a b : TFile) (h : bK a + bK b ≤ 4300000) : (chg a b).length ≤ 4300000 := by
 have h1 := a3A a b (attrNs a.fAttrs ++ attrNs b.fAttrs)
 rw [List.length_append, gX, gX] at h1
 unfold bK aW at h
 unfold chg; omega
theorem yP (l : List TDir) (a b : TFile) (h : gJ l + (bK a + bK b) ≤ 4300000) : FnC Try.prog 22 [.o (.d (.sl (l.map gB))), cK a, cK b] (.o (.w 9 1 ((affD a b l).map bX))) := by
 have hl : l.length ≤ 4300000 := by unfold gJ at h; omega
 have hch := a7d a b (by omega)
 refine ent Try.func22 rfl Try.call22 rfl (fun C => ?_); simp only [go_sem, st0, Try.ntmps22]
 by_cases hid : a.fID = b.fID
 case neg =>
  have hid' : decide (a.fID = b.fID) = false := by simp [hid]
  have q0 := @hid'; refine nR (uQ l hl) ?_
  exact aA ⟨⟨_, rfl, by simp only [go_sem, affD, hid, if_false]⟩, trivial⟩
 have hid' : decide (a.fID = b.fID) = true := by simp [hid]
 have q0 := @hid'; refine nR (vD a b (by omega)) ?_
 refine dD (α := Nat) (fun k => [(8, .o (.s 2)), (24, .o .u), (27, oi k)]) (fun k => [(2, .row 9 1 ((yA a b (l.take k)).map bX) true)]) (fun k => k ≤ l.length) (fun k => l.length - k) 0 (fun _ => ?_) ?_ ?_ (fun k hk => ?_)
 ·simp only [go_sem]
 ·simp only [go_sem]; simp [yA]
 ·simp
 ·simp only [go_sem]
  refine aP ?_
  have hlen : (yA a b (l.take k)).length ≤ 4300000 := by have h2 := a5X a b (l.take k); simp at h2; omega
  refine cnd rfl (fun h1 => ?_) (fun h1 => ?_)
  ·simp only [decide_eq_true_eq, Int.ofNat_lt] at h1
   have ht := a4w a b l k h1
   have hq := a7m l k h1
   have hqa := uE (qA l[k].fQuery)
   have hqb := a5U l[k].fQuery
   have hl1 : (yA a b (l.take k)).length + 1 ≤ 140737488355328 := by omega
   have hl2 : ((yA a b (l.take k)).length + 1) * 16 ≤ 140737488355328 := by omega
   have hc := uH 50 [.sl ((fG (qA l[k].fQuery)).map bX)] (hasS (fG (qA l[k].fQuery))) (fG (chg a b)) (fun s _ => a7a _ s (by omega)) (by have := uE (chg a b); omega)
   rw [a5W] at hc
   have hn := oN 53 (fun n => decide (n.fOp = 9)) l[k].fQuery (fun n _ => a7b n) (by omega)
   have hn : FnC Try.prog _ _ (ob (a5V l[k].fQuery)) := hn
   cases hh : a7c (chg a b) (qA l[k].fQuery)
   case true =>
    rw [if_pos (by simp [affB, hh])] at ht
    have q0 := @h1; have q1 := @hh; refine a9G (mR l[k].fQuery (by omega)) hc hn ?_
    refine aR (k + 1) ?_ ?_ ?_
    ·simp only [go_sem, ht, List.map_append]; simp
    ·omega
    ·omega
   cases hL : a5V l[k].fQuery
   case false =>
    rw [if_neg (by simp [affB, hh, hL]), List.append_nil] at ht
    have q0 := @h1; have q1 := @hh; have q2 := @hL; refine a9H (mR l[k].fQuery (by omega)) hc hn ?_
    refine aR (k + 1) ?_ ?_ ?_
    ·simp only [go_sem, ht]; simp
    ·omega
    ·omega
   by_cases hk2 : a.fLink = b.fLink
   ·rw [if_neg (by simp [affB, hh, hL, hk2]), List.append_nil] at ht
    have hk' : decide (a.fLink = b.fLink) = true := by simp [hk2]
    have q0 := @h1; have q1 := @hh; have q2 := @hL; have q3 := @hk'; refine a8H (mR l[k].fQuery (by omega)) hc hn ?_
    refine aR (k + 1) ?_ ?_ ?_
    ·simp only [go_sem, ht]; simp
    ·omega
    ·omega
   ·rw [if_pos (by simp [affB, hh, hL, hk2])] at ht
    have hk' : decide (a.fLink = b.fLink) = false := by simp [hk2]
    have q0 := @h1; have q1 := @hh; have q2 := @hL; have q3 := @hk'; refine a8H (mR l[k].fQuery (by omega)) hc hn ?_
    refine aR (k + 1) ?_ ?_ ?_
    ·simp only [go_sem, ht, List.map_append]; simp
    ·omega
    ·omega
  ·simp only [decide_eq_false_iff_not] at h1
   have e : k = l.length := by omega
   subst e
   rw [List.take_length] at *
   refine aP ?_
   exact aA ⟨⟨_, rfl, by simp only [go_sem, List.take_length, affD, hid, if_true]⟩, trivial⟩
theorem oO (l : List TDir) (a b : TFile) (h : gJ l + (bK a + bK b) ≤ 4300000) : FnC Try.prog 22 [.o (.d (.sl (l.map gB))), cK a, cK b] (.o (.d (.sl ((affD a b l).map bX)))) := (yP l a b h).pu (by simp only [go_sem, and_self])
end Go.Proofs.Ytjkbipgmckeckaa
end
section
set_option maxRecDepth 100000
set_option maxHeartbeats 4000000
namespace Go.Proofs.Ytjkbipgmckeckaa
open Go Go.Sx Go.RowKit Go.Proofs Go.Sx.Clos
def isD (n : TNode) : Bool := decide (8 ≤ n.fOp) && decide (n.fOp ≤ 9)
def qD (q : List TNode) : List ByteArray := (q.filter isD).map TNode.fName
theorem a5P (q : List TNode) : (qD q).length ≤ q.length := by simp only [qD, List.length_map]; exact List.length_filter_le _ _
theorem a6T (q : List TNode) (k : Nat) (h : k < q.length) : qD (q.take (k + 1)) = qD (q.take k) ++ (if isD q[k] then [q[k].fName] else []) := by
 simp only [qD, List.take_succ_eq_append_getElem h, List.filter_append, List.map_append, List.filter_cons, List.filter_nil]
 cases isD q[k] <;> rfl
def eD (l : List TDir) : List (ByteArray × List ByteArray) := l.map fun d => (d.fName, a0V (qD d.fQuery))
theorem a8k (l : List TDir) : (eD l).length = l.length := by simp [eD]
def wS (s : ByteArray) : Nat := 1 + s.size
def pot (l : List TDir) (o : List ByteArray) : Nat := wsm wS o + fC wS (eD l) o
def nmD (l : List TDir) (y : ByteArray) : Prop := ∃ e ∈ eD l, e.1 = y
theorem a8l (l : List TDir) (d : TDir) (h : d ∈ l) : nmD l d.fName := ⟨_, List.mem_map.2 ⟨d, h, rfl⟩, rfl⟩
theorem a0R (a b : List ByteArray) : wsm wS (a ++ b) = wsm wS a + wsm wS b := by
 induction a with
 | nil => simp [wsm]
 | cons x a ih => simp only [List.cons_append, wsm, ih]; omega
theorem a8m (l : List ByteArray) : wsm wS l = wV l := by
 unfold wV
 induction l with
 | nil => simp [wsm, bV]
 | cons x l ih => simp only [wsm, bV, wS, List.length_cons, ih]; omega
theorem a6U (l : List ByteArray) : l.length ≤ wsm wS l := by rw [a8m]; unfold wV; omega
theorem a0S (l : List TDir) (o : List ByteArray) : o.length ≤ pot l o := by have := a6U o; unfold pot; omega
theorem a1V (o : List ByteArray) (s : ByteArray) : wsm wS (mQ o s) ≤ wsm wS o + wS s := by
 unfold mQ
 split
 ·omega
 ·unfold fA
  have h := congrArg (wsm wS) (List.take_append_drop (bS (geS s) o) o)
  rw [a0R] at h
  rw [a0R]
  simp only [wsm]
  omega
theorem a5Q (o : List ByteArray) (s : ByteArray) (h : o.Pairwise ltS) (hs : s ∈ o) : mQ o s = o :=
 oK xY uC (jZ s h) h fun x => by
  rw [lJ]
  constructor
  ·rintro (rfl | h)
   ·exact hs
   ·exact h
  ·exact .inr
def okS (l : List TDir) (B : Nat) (o : List ByteArray) : Prop := o.Pairwise ltS ∧ pot l o ≤ B
theorem a6V {l : List TDir} {B : Nat} (o : List ByteArray) (s : ByteArray) (h : okS l B o) (hs : nmD l s) : okS l B (mQ o s) := by
 refine ⟨jZ s h.1, Nat.le_trans ?_ h.2⟩
 by_cases hm : s ∈ o
 ·rw [a5Q o s h.1 hm]; exact Nat.le_refl _
 ·have h1 := a1V o s
  have h2 := tZ wS (eD l) (S := o) (T := mQ o s) (fun x hx => (lJ o s x).2 (.inr hx)) hs ((lJ o s s).2 (.inl rfl)) hm
  unfold pot; omega
theorem a4o (l : List ByteArray) : ∀ a : List ByteArray, wsm wS (l.foldl mQ a) ≤ wsm wS a + wsm wS l := by
 induction l with
 | nil => intro a; simp [wsm]
 | cons y l ih =>
  intro a
  have h1 := ih (mQ a y)
  have h2 := a1V a y
  simp only [List.foldl_cons, wsm]; omega
theorem a5R (l : List TDir) (names : List ByteArray) : okS l (pot l names) (a0V names) := by
 refine ⟨a1Z names, ?_⟩
 have h1 := a4o names []
 have h2 := uU wS (eD l) (S := names) (T := a0V names) (fun x hx => (oM names x).2 hx)
 simp only [wsm] at h1
 unfold pot a0V at *
 omega
def a3y (l : List TDir) (names : List ByteArray) (n : Nat) : List ByteArray := fK mQ (eD l) n (a0V names)
def tdS (l : List TDir) (names : List ByteArray) : List ByteArray := a3y l names (l.length + 1)
theorem a2S (l : List TDir) (names : List ByteArray) (n : Nat) : okS l (pot l names) (a3y l names n) :=
 xX (Nm := nmD l) (fun o s h hs => a6V o s h hs) (eD l) (fun e he => ⟨e, he, rfl⟩) (a5R l names) n
def mP (l : List TDir) (s : ByteArray) : List ByteArray := (l.filter fun d => hasS (qD d.fQuery) s).map TDir.fName
theorem a1W (l : List TDir) (s y : ByteArray) : y ∈ mP l s ↔ ∃ d ∈ l, s ∈ qD d.fQuery ∧ d.fName = y := by
 unfold mP
 rw [List.mem_map]
 constructor
 ·rintro ⟨d, hd, rfl⟩
  rw [List.mem_filter] at hd
  exact ⟨d, hd.1, (jO _ _).1 hd.2, rfl⟩
 ·rintro ⟨d, hd, hs, rfl⟩
  exact ⟨d, List.mem_filter.2 ⟨hd, (jO _ _).2 hs⟩, rfl⟩
theorem a1X (l : List TDir) (s : ByteArray) : (mP l s).length ≤ l.length := by simp only [mP, List.length_map]; exact List.length_filter_le _ _
theorem a4p (l : List TDir) (s : ByteArray) (k : Nat) (h : k < l.length) : mP (l.take (k + 1)) s = mP (l.take k) s ++ (if hasS (qD l[k].fQuery) s then [l[k].fName] else []) := by
 simp only [mP, List.take_succ_eq_append_getElem h, List.filter_append, List.map_append, List.filter_cons, List.filter_nil]
 cases hasS (qD l[k].fQuery) s <;> rfl
structure Good (l : List TDir) (names o : List ByteArray) : Prop where
 ext : ∀ x ∈ names, x ∈ o
 least : ∀ T, Closed (eD l) T → (∀ x ∈ names, x ∈ T) → ∀ x ∈ o, x ∈ T
 le : pot l o ≤ pot l names
theorem Good.start (l : List TDir) (names : List ByteArray) : Good l names names := ⟨fun _ h => h, fun _ _ h => h, Nat.le_refl _⟩
theorem Good.add {l : List TDir} {names o : List ByteArray} (g : Good l names o) {x y : ByteArray} (hx : x ∈ o) (hy : y ∈ mP l x) (hn : ¬ y ∈ o) : Good l names (o ++ [y]) := by
 obtain ⟨d, hd, hq, rfl⟩ := (a1W l x y).1 hy
 refine ⟨fun z hz => List.mem_append_left _ (g.ext z hz), fun T hT h z hz => ?_, ?_⟩
 ·rcases List.mem_append.1 hz with h1 | h1
  ·exact g.least T hT h z h1
  ·simp only [List.mem_singleton] at h1
   subst h1
   exact hT _ (List.mem_map.2 ⟨d, hd, rfl⟩) ⟨x, (oM _ _).2 hq, g.least T hT h x hx⟩
 ·have h1 := tZ wS (eD l) (S := o) (T := o ++ [d.fName]) (fun z hz => List.mem_append_left _ hz) (a8l l d hd) (by simp) hn
  have h2 := g.le
  have h3 := a0R o [d.fName]
  simp only [wsm] at h3
  unfold pot at *
  omega
theorem Good.done {l : List TDir} {names o : List ByteArray} (g : Good l names o) (hc : ∀ x ∈ o, ∀ y ∈ mP l x, y ∈ o) : fG o = tdS l names := by
 refine oK xY uC (a0U o) (a2S l names (l.length + 1)).1 fun x => ?_
 rw [uF]
 have h := a1Y (put := mQ) lJ (eD l) (S := a0V names) (O := o) (fun x hx => g.ext x ((oM _ _).1 hx)) (fun e he hx => by
  obtain ⟨d, hd, rfl⟩ := List.mem_map.1 he
  obtain ⟨x, hx, ho⟩ := hx
  exact hc x ho _ ((a1W l x _).2 ⟨d, hd, (oM _ _).1 hx, rfl⟩)) (fun T hT hs => g.least T hT fun x hx => hs x ((oM _ _).2 hx)) x
 rw [a8k] at h
 exact h
theorem a1T (n : TNode) : FnC Try.prog 113 [zN n] (ob (isD n)) := by
 refine ent Try.func113 rfl Try.call113 rfl (fun C => ?_); simp only [go_sem, st0, Try.ntmps113]
 by_cases c8 : n.fOp = 8
 ·have hd : isD n = true := by simp [isD, c8]
  have q0 := @c8; have q1 := @decide_true; refine jR ?_
  exact aA ⟨⟨_, rfl, by simp only [go_sem, hd]⟩, trivial⟩
 by_cases c9 : n.fOp = 9
 ·have hd : isD n = true := by simp [isD, c9]
  have q0 := @c8; have q1 := @c9; have q2 := @decide_true; have q3 := @decide_false; refine rX ?_
  exact aA ⟨⟨_, rfl, by simp only [go_sem, hd]⟩, trivial⟩
 ·have hd : isD n = false := by
   rw [← Bool.not_eq_true]
   simp only [isD, Bool.and_eq_true, decide_eq_true_eq]; omega
  have q0 := @c8; have q1 := @c9; have q2 := @decide_true; have q3 := @decide_false; refine rX ?_
  exact aA ⟨⟨_, rfl, by simp only [go_sem, hd]⟩, trivial⟩
theorem a4m (q : List TNode) (hl : q.length ≤ 4300000) : FnC Try.prog 102 [.o (.d (.sl (q.map bQ)))] (.o (.w 9 1 ((fG (qD q)).map bX))) := by
 refine ent Try.func102 rfl Try.call102 rfl (fun C => ?_); simp only [go_sem, st0, Try.ntmps102]
 refine aP ?_
 refine dD (α := Nat) (fun k => [(3, .o (.s 0)), (6, .o .u), (9, oi k)]) (fun k => [(0, .row 9 1 ((qD (q.take k)).map bX) true)]) (fun k => k ≤ q.length) (fun k => q.length - k) 0 (fun _ => ?_) ?_ ?_ (fun k hk => ?_)
 ·simp only [go_sem]
 ·simp only [go_sem]; simp [qD]
 ·simp
 ·simp only [go_sem]
  refine aP ?_
  have hlen : (qD (q.take k)).length ≤ 4300000 := by have h2 := a5P (q.take k); simp at h2; omega
  refine cnd rfl (fun h1 => ?_) (fun h1 => ?_)
  ·simp only [decide_eq_true_eq, Int.ofNat_lt] at h1
   have ht := a6T q k h1
   have hl1 : (qD (q.take k)).length + 1 ≤ 140737488355328 := by omega
   have hl2 : ((qD (q.take k)).length + 1) * 16 ≤ 140737488355328 := by omega
   have q0 := @h1; refine nR (a1T q[k]) ?_
   refine cnd (b := isD q[k]) rfl (fun hv => ?_) (fun hv => ?_)
   ·rw [if_pos hv] at ht
    have q0 := @h1; refine jQ ?_
    refine aR (k + 1) ?_ ?_ ?_
    ·simp only [go_sem, ht, List.map_append]; simp
    ·omega
    ·omega
   ·rw [if_neg (by simp [hv]), List.append_nil] at ht
    have q0 := @h1; refine jQ ?_
    refine aR (k + 1) ?_ ?_ ?_
    ·simp only [go_sem, ht]; simp
    ·omega
    ·omega
  ·simp only [decide_eq_false_iff_not] at h1
   have e : k = q.length := by omega
   subst e
   rw [List.take_length] at *
   refine kY (iD (qD q) hlen) ?_
   exact aA ⟨⟨_, rfl, by simp only [go_sem, List.take_length]⟩, trivial⟩
theorem a2Q (q : List TNode) (hl : q.length ≤ 4300000) : FnC Try.prog 102 [.o (.d (.sl (q.map bQ)))] (.o (.d (.sl ((fG (qD q)).map bX)))) := (a4m q hl).pu (by simp only [go_sem, and_self])
theorem a4n (l : List ByteArray) (s : ByteArray) : hasS (fG l) s = hasS l s := by rw [Bool.eq_iff_iff, jO, jO, uF]
theorem a2R (l : List TDir) (s : ByteArray) (h : gJ l ≤ 4300000) : FnC Try.prog 78 [.o (.d (.sl (l.map gB))), os s] (.o (.w 9 1 ((mP l s).map bX))) := by
 have hl : l.length ≤ 4300000 := by unfold gJ at h; omega
 refine ent Try.func78 rfl Try.call78 rfl (fun C => ?_); simp only [go_sem, st0, Try.ntmps78]
 refine aP ?_
 refine dD (α := Nat) (fun k => [(5, .o (.s 0)), (8, .o .u), (11, oi k)]) (fun k => [(0, .row 9 1 ((mP (l.take k) s).map bX) true)]) (fun k => k ≤ l.length) (fun k => l.length - k) 0 (fun _ => ?_) ?_ ?_ (fun k hk => ?_)
 ·simp only [go_sem]
 ·simp only [go_sem]; simp [mP]
 ·simp
 ·simp only [go_sem]
  refine aP ?_
  have hlen : (mP (l.take k) s).length ≤ 4300000 := by have h2 := a1X (l.take k) s; simp at h2; omega
  refine cnd rfl (fun h1 => ?_) (fun h1 => ?_)
  ·simp only [decide_eq_true_eq, Int.ofNat_lt] at h1
   have ht := a4p l s k h1
   have hq := a7m l k h1
   have hqa := uE (qD l[k].fQuery)
   have hqb := a5P l[k].fQuery
   have hl1 : (mP (l.take k) s).length + 1 ≤ 140737488355328 := by omega
   have hl2 : ((mP (l.take k) s).length + 1) * 16 ≤ 140737488355328 := by omega
   have hc := iQ (fG (qD l[k].fQuery)) s (by omega)
   rw [a4n] at hc
   have q0 := @h1; refine a8G (a2Q l[k].fQuery (by omega)) hc ?_
   refine cnd (b := hasS (qD l[k].fQuery) s) rfl (fun hv => ?_) (fun hv => ?_)
   ·rw [if_pos hv] at ht
    have q0 := @h1; refine jQ ?_
    refine aR (k + 1) ?_ ?_ ?_
    ·simp only [go_sem, ht, List.map_append]; simp
    ·omega
    ·omega
   ·rw [if_neg (by simp [hv]), List.append_nil] at ht
    have q0 := @h1; refine jQ ?_
    refine aR (k + 1) ?_ ?_ ?_
    ·simp only [go_sem, ht]; simp
    ·omega
    ·omega
  ·simp only [decide_eq_false_iff_not] at h1
   have e : k = l.length := by omega
   subst e
   rw [List.take_length] at *
   refine aP ?_
   exact aA ⟨⟨_, rfl, by simp only [go_sem, List.take_length]⟩, trivial⟩
theorem a1U (l : List TDir) (s : ByteArray) (h : gJ l ≤ 4300000) : FnC Try.prog 78 [.o (.d (.sl (l.map gB))), os s] (.o (.d (.sl ((mP l s).map bX)))) := (a2R l s h).pu (by simp only [go_sem, and_self])
theorem a4l (l : List TDir) (names : List ByteArray) (h : gJ l ≤ 4300000) (hB : pot l names ≤ 4300000) : FnC Try.prog 45 [.o (.d (.sl (l.map gB))), .o (.d (.sl (names.map bX)))] (.o (.w 9 1 ((tdS l names).map bX))) := by
 have hl : l.length ≤ 4300000 := by unfold gJ at h; omega
 have hnl : names.length ≤ 4300000 := Nat.le_trans (a0S l names) hB
 refine ent Try.func45 rfl Try.call45 rfl (fun C => ?_); simp only [go_sem, st0, Try.ntmps45]
 refine kY (uS names hnl) ?_
 refine dD (α := Nat × List ByteArray) (fun x => [(5, .o (.s 0)), (6, oi x.1), (10, .o .u)]) (fun x => [(0, .row 9 1 (x.2.map bX) true)]) (fun x => x.1 ≤ x.2.length ∧ Good l names x.2 ∧ ∀ z ∈ x.2.take x.1, ∀ y ∈ mP l z, y ∈ x.2) (fun x => 4300001 - x.1) (0, names) (fun _ => ?_) ?_ ?_ (fun x hx => ?_)
 ·simp only [go_sem]
 ·simp only [go_sem]; simp
 ·exact ⟨Nat.zero_le _, Good.start l names, by simp⟩
 ·obtain ⟨i, o⟩ := x
  obtain ⟨hi, hg, hp⟩ := hx
  simp only at hi hg hp
  have hol : o.length ≤ 4300000 := Nat.le_trans (a0S l o) (Nat.le_trans hg.le hB)
  simp only [go_sem]
  refine aP ?_
  refine cnd rfl (fun h1 => ?_) (fun h1 => ?_)
  ·simp only [decide_eq_true_eq, Int.ofNat_lt] at h1
   have hoi : o[i] ∈ o.take (i + 1) := by rw [List.take_succ_eq_append_getElem h1]; exact List.mem_append_right _ List.mem_cons_self
   have hLl := a1X l o[i]
   have q0 := @h1; refine nR (a1U l o[i] h) ?_
   generalize hL : mP l o[i] = L at *
   refine dD (α := Nat × List ByteArray) (fun y => [(5, .o (.s 0)), (12, .o .u), (18, .o .u), (20, .o .u), (24, oi y.1)]) (fun y => [(0, .row 9 1 (y.2.map bX) true)]) (fun y => y.1 ≤ L.length ∧ Good l names y.2 ∧ y.2.take (i + 1) = o.take (i + 1) ∧ i < y.2.length ∧ (∀ z ∈ L.take y.1, z ∈ y.2) ∧ ∀ z ∈ o.take i, ∀ y' ∈ mP l z, y' ∈ y.2) (fun y => L.length - y.1) (0, o) (fun _ => ?_) ?_ ?_ (fun y hy => ?_)
   ·simp only [go_sem]
   ·simp only [go_sem]; simp
   ·exact ⟨Nat.zero_le _, hg, rfl, h1, by simp, hp⟩
   ·obtain ⟨k, q⟩ := y
    obtain ⟨hk, hgq, htk, hiq, hdn, hpq⟩ := hy
    simp only at hk hgq htk hiq hdn hpq
    have hql : q.length ≤ 4300000 := Nat.le_trans (a0S l q) (Nat.le_trans hgq.le hB)
    simp only [go_sem]
    refine aP ?_
    refine cnd rfl (fun h2 => ?_) (fun h2 => ?_)
    ·simp only [decide_eq_true_eq, Int.ofNat_lt] at h2
     have hqi : o[i] ∈ q := by rw [← htk] at hoi; exact List.mem_of_mem_take hoi
     have hll1 : q.length + 1 ≤ 140737488355328 := by omega
     have hll2 : (q.length + 1) * 16 ≤ 140737488355328 := by omega
     have qH := @h2; repeat' (with_reducible first | refine nY ?_ | (refine mX ?_; try simp only [go_sem, qH]) | refine kD ?_ | refine rD ?_ | refine vL (iQ q L[k] hql) ?_ | refine aO ?_ | fail)
     refine cnd (b := !hasS q L[k]) rfl (fun hv => ?_) (fun hv => ?_)
     ·have hm : ¬ L[k] ∈ q := fun hm => by rw [(jO q L[k]).2 hm] at hv; cases hv
      have q0 := @h2; refine jQ ?_
      refine aR (k + 1, q ++ [L[k]]) ?_ ?_ ?_
      ·simp only [go_sem, List.map_append]; simp
      ·refine ⟨h2, hgq.add hqi (by rw [hL]; exact List.getElem_mem h2) hm, ?_, by simp; omega, fun z hz => ?_, fun z hz y' hy' => List.mem_append_left _ (hpq z hz y' hy')⟩
       ·rw [List.take_append_of_le_length (by omega)]; exact htk
       ·rw [List.take_succ_eq_append_getElem h2] at hz
        rcases List.mem_append.1 hz with hz | hz
        ·exact List.mem_append_left _ (hdn z hz)
        ·exact List.mem_append_right _ hz
      ·simp only; omega
     ·have hm : L[k] ∈ q := (jO q L[k]).1 (by simpa using hv)
      have q0 := @h2; refine jQ ?_
      refine aR (k + 1, q) ?_ ?_ ?_
      ·simp only [go_sem]; simp
      ·refine ⟨h2, hgq, htk, hiq, fun z hz => ?_, hpq⟩
       rw [List.take_succ_eq_append_getElem h2] at hz
       rcases List.mem_append.1 hz with hz | hz
       ·exact hdn z hz
       ·simp only [List.mem_singleton] at hz; subst hz; exact hm
      ·simp only; omega
    ·simp only [decide_eq_false_iff_not] at h2
     have e : k = L.length := by omega
     subst e
     rw [List.take_length] at hdn
     refine aP ?_
     refine aR (i + 1, q) ?_ ?_ ?_
     ·simp only [go_sem]; simp
     ·refine ⟨hiq, hgq, fun z hz y' hy' => ?_⟩
      simp only at hz
      rw [htk, List.take_succ_eq_append_getElem h1] at hz
      rcases List.mem_append.1 hz with hz | hz
      ·exact hpq z hz y' hy'
      ·simp only [List.mem_singleton] at hz; subst hz; rw [hL] at hy'; exact hdn y' hy'
     ·simp only; omega
  ·simp only [decide_eq_false_iff_not] at h1
   have e : i = o.length := by omega
   subst e
   rw [List.take_length] at hp
   have hd := hg.done hp
   refine kY (iD o hol) ?_
   exact aA ⟨⟨_, rfl, by simp only [go_sem, hd]⟩, trivial⟩
theorem a2P (l : List TDir) (p : TDir → Bool) (S : List ByteArray) (hS : ∀ d ∈ l, p d = true → d.fName ∈ S) : wsm wS ((l.filter p).map TDir.fName) + fC wS (eD l) S ≤ gJ l := by
 unfold gJ
 induction l with
 | nil => simp [wsm, eD, fC, bV]
 | cons d l ih =>
  have ih := ih fun d' hd' => hS d' (List.mem_cons_of_mem _ hd')
  have e : a2K d = d.fName.size + dB d.fQuery := rfl
  have ee : wS d.fName = 1 + d.fName.size := rfl
  simp only [eD, List.map_cons, fC, List.filter_cons, List.length_cons, bV] at ih ⊢
  cases hp : p d with
  | true =>
   have hm := hS d List.mem_cons_self hp
   simp only [hm, if_true, List.map_cons, wsm]; omega
  | false =>
   simp only [Bool.false_eq_true, if_false]
   split <;> omega
theorem a5O (a b : TFile) (l : List TDir) : pot l (affD a b l) ≤ gJ l := by
 have hgen : ∀ p : TDir → Bool, pot l ((l.filter p).map TDir.fName) ≤ gJ l := fun p => a2P l p _ fun d hd hp => List.mem_map.2 ⟨d, List.mem_filter.2 ⟨hd, hp⟩, rfl⟩
 unfold affD
 split
 ·exact hgen _
 ·have := hgen (fun _ => true)
  rw [List.filter_eq_self.2 (by simp)] at this
  exact this
def affA (a b : TFile) (l : List TDir) : List ByteArray := tdS l (affD a b l)
theorem xV (l : List TDir) (a b : TFile) (h : gJ l + (bK a + bK b) ≤ 4300000) : FnC Try.prog 21 [.o (.d (.sl (l.map gB))), cK a, cK b] (.o (.w 9 1 ((affA a b l).map bX))) := by
 have hp := a5O a b l
 refine ent Try.func21 rfl Try.call21 rfl (fun C => ?_); simp only [go_sem, st0, Try.ntmps21]
 refine a9F (oO l a b h) (a4l l (affD a b l) (by omega) (by omega)) ?_
 exact aA ⟨⟨_, rfl, by simp only [go_sem, affA]⟩, trivial⟩
end Go.Proofs.Ytjkbipgmckeckaa
end
