/-
  slices.Sort and slices.Compact at []int: on a row of the caller's own.
-/
import Derived.Test.YtgglopecipbbfaaGreatS0Lay
import Derived.Test.YtgglopecipbbfaaGreatI1
set_option linter.all false
namespace Go.Proofs.YtgglopecipbbfaaGreat
open Go Go.Sx Go.RowKit Go.Proofs

def sortI (l : List Int) : List Int := l.mergeSort fun x y => decide (x ≤ y)
theorem compactUpTo_len {α : Type} [Inhabited α] [DecidableEq α] (d : Array α) : ∀ m, (Lib.compactUpTo d m).length ≤ m
  | 0 => by simp [Lib.compactUpTo]
  | m + 1 => by
    have := compactUpTo_len d m
    rw [Lib.compactUpTo_succ, List.length_append]
    split <;> simp <;> omega
def compI (l : List Int) : List Int := Lib.compact l
/-! At []string -/
def bl (s : ByteArray) : List UInt8 := s.data.toList
def lb (l : List UInt8) : ByteArray := ⟨l.toArray⟩
theorem bl_lb (l : List UInt8) : bl (lb l) = l := rfl
theorem lb_bl (s : ByteArray) : lb (bl s) = s := by cases s; simp [lb, bl]
def sortB (l : List (List UInt8)) : List (List UInt8) := l.mergeSort fun x y => decide (x ≤ y)
def sortS (l : List ByteArray) : List ByteArray := (sortB (l.map bl)).map lb
def compS (l : List ByteArray) : List ByteArray := (Lib.compact (l.map bl)).map lb
theorem sortS_len (l : List ByteArray) : (sortS l).length = l.length := by simp [sortS, sortB, List.length_mergeSort]
theorem rows_bl (l : List ByteArray) : l.map encS = rowS Go.Proofs.encStr (l.map bl) := by
  simp only [rowS, List.map_map]
  refine List.map_congr_left fun s _ => ?_
  have h := lb_bl s
  simp only [lb] at h
  simp only [Function.comp, encS, Go.Proofs.encStr, h]
theorem rows_lb (l : List (List UInt8)) : (l.map lb).map encS = rowS Go.Proofs.encStr l := by
  rw [rows_bl, List.map_map]
  congr 1
  simp [Function.comp_def, bl_lb]
theorem encStr_scalar (x : List UInt8) : scalar (Go.Proofs.encStr x) = true := rfl
theorem sortStr_ok (l : List ByteArray) (hl : l.length ≤ 4611686018427387903) : FnI Tryz.prog 273 9 1 (l.map encS) [] true ((sortS l).map encS) := by
  refine ⟨Tryz.call273, fun V w y S vs hm hrow hnd hlt hargs => ?_⟩
  have hvs : vs = [] := by have := hargs.1; simpa using this
  subst hvs
  rw [sortS, rows_lb]
  rw [rows_bl] at hrow
  rcases scal_down (e := Go.Proofs.encStr) hrow with ⟨⟨ao, rfl⟩, hn, rfl⟩ | ⟨b, cap, c, rfl, h1, h2, h3, h4, h5, h6, rfl⟩
  · refine (Any.slices_Sort_string_none Tryz.laysSortStr ao 0 w).mono ?_
    rintro e w' ⟨rfl, rfl⟩
    exact ⟨_, rfl, fun _ => rfl, ⟨⟨rfl, rfl, rfl, Nat.le_refl _, fun _ _ _ => rfl⟩, [], (by rw [hn] at hrow ⊢; simpa [sortB] using hrow), hnd, fun b hb => .inl hb, fun _ => rfl⟩⟩
  · have hb : b < w.heap.size := (Array.getElem?_eq_some_iff.1 h3).1
    refine (Any.slices_Sort_string Tryz.laysSortStr b 0 cap (l.map bl) w h5 hb (by simp; omega)).mono ?_
    rintro e w' ⟨rfl, n, os, rfl⟩
    have hsl : (sortB (l.map bl)).length = (l.map bl).length := by simp [sortB, List.length_mergeSort]
    have hup := scal_up (e := Go.Proofs.encStr) (l := sortB (l.map bl)) (d := (sortB (l.map bl)).toArray) encStr_scalar h3 h4 h2 (by simp only [List.size_toArray, hsl]; exact h1) rfl (List.prefix_refl _) h6 (n := n) (os := os)
    rw [hsl] at hup
    exact ⟨_, rfl, fun _ => rfl, ⟨hup.2, [b], hup.1, hnd, fun b hb => .inl hb, fun _ => rfl⟩⟩
theorem compactStr_ok (l : List ByteArray) (hl : l.length ≤ 4611686018427387903) : FnI Tryz.prog 274 9 1 (l.map encS) [] false ((compS l).map encS) := by
  refine ⟨Tryz.call274, fun V w y S vs hm hrow hnd hlt hargs => ?_⟩
  have hvs : vs = [] := by have := hargs.1; simpa using this
  subst hvs
  rw [compS, rows_lb]
  rw [rows_bl] at hrow
  rcases scal_down (e := Go.Proofs.encStr) hrow with ⟨⟨ao, rfl⟩, hn, rfl⟩ | ⟨b, cap, c, rfl, h1, h2, h3, h4, h5, h6, rfl⟩
  · refine (Any.slices_Compact_string_empty Tryz.laysCompactStr ao 0 w).mono ?_
    rintro e w' ⟨rfl, rfl⟩
    exact ⟨_, rfl, fun h => (by cases h), ⟨⟨rfl, rfl, rfl, Nat.le_refl _, fun _ _ _ => rfl⟩, [], (by rw [hn] at hrow ⊢; exact hrow), hnd, fun b hb => .inl hb, fun _ => rfl⟩⟩
  · have hb : b < w.heap.size := (Array.getElem?_eq_some_iff.1 h3).1
    refine (Any.slices_Compact_string Tryz.laysCompactStr b 0 cap (l.map bl) w h5 (by simp; omega) h1).mono ?_
    rintro e w' ⟨rfl, n, rfl⟩
    have hle : (Lib.compact (l.map bl)).length ≤ (l.map bl).length := compactUpTo_len _ _
    have hup := scal_up (e := Go.Proofs.encStr) (l := Lib.compact (l.map bl)) (d := (Lib.compact (l.map bl) ++ List.replicate ((l.map bl).length - (Lib.compact (l.map bl)).length) []).toArray) (w' := Sort.putRow Go.Proofs.encStr (Sort.ahead w n) b 0 (Lib.compact (l.map bl) ++ List.replicate ((l.map bl).length - (Lib.compact (l.map bl)).length) []).toArray) encStr_scalar h3 h4 h2 (by simp only [List.size_toArray, List.length_append, List.length_replicate]; omega) (by rw [Sort.grow_empty]) (by simp) h6 (n := n) (os := #[])
    exact ⟨_, rfl, fun h => (by cases h), ⟨hup.2, [b], hup.1, hnd, fun b hb => .inl hb, fun _ => rfl⟩⟩
end Go.Proofs.YtgglopecipbbfaaGreat
