/-
  The table of this translation's types, by program (gentypes.py), and that it is what the program says.
-/
import Derived.Test.YtbplbpdfpcocgaaProg
import Derived.Test.YtbplbpdfpcocgaaB5Set
import Derived.KernelRfl
set_option linter.all false
namespace Go.Proofs.Ytbplbpdfpcocgaa
open Go Go.Sx Go.RowKit

noncomputable def ttl : List Ty := [.bad,
  .bad,
  ⟨3, 1, 8, [.d (.v (.int .i64 0))], [], 0, .i64⟩,
  ⟨3, 1, 8, [.d (.v (.int .i64 0))], [], 0, .i64⟩,
  ⟨4, 1, 1, [.d (.v (.bool false))], [], 0, .i64⟩,
  ⟨3, 1, 1, [.d (.v (.int .u8 0))], [], 0, .u8⟩,
  ⟨3, 1, 1, [.d (.v (.int .u8 0))], [], 0, .u8⟩,
  ⟨1, 4, 24, [.d (.v (.int .i64 0)), .d (.v (.int .i64 0)), .d (.v (.bool false)), .d (.v (.int .u8 0))], [(0, 2), (1, 3), (2, 4), (3, 6)], 0, .i64⟩,
  ⟨1, 4, 24, [.d (.v (.int .i64 0)), .d (.v (.int .i64 0)), .d (.v (.bool false)), .d (.v (.int .u8 0))], [(0, 2), (1, 3), (2, 4), (3, 6)], 0, .i64⟩,
  ⟨5, 1, 16, [.d (.v (.string ⟨#[]⟩))], [], 0, .i64⟩,
  ⟨5, 1, 16, [.d (.v (.string ⟨#[]⟩))], [], 0, .i64⟩,
  ⟨5, 1, 16, [.d (.v (.string ⟨#[]⟩))], [], 0, .i64⟩,
  .bad,
  .bad,
  .bad,
  .bad,
  .bad,
  .bad,
  .bad,
  .bad,
  .bad,
  .bad,
  .bad,
  .bad,
  ⟨2, 1, 24, [.z], [], 3, .i64⟩,
  .bad,
  .bad,
  .bad,
  ⟨1, 2, 24, [.d (.v (.string ⟨#[]⟩)), .d (.v (.int .i64 0))], [(0, 9), (1, 3)], 0, .i64⟩,
  ⟨1, 2, 24, [.d (.v (.string ⟨#[]⟩)), .d (.v (.int .i64 0))], [(0, 9), (1, 3)], 0, .i64⟩,
  .bad,
  .bad,
  ⟨1, 2, 24, [.d (.v (.string ⟨#[]⟩)), .d (.v (.int .i64 0))], [(0, 9), (1, 3)], 0, .i64⟩,
  .bad,
  .bad,
  ⟨2, 1, 24, [.z], [], 82, .i64⟩,
  ⟨1, 5, 56, [.d (.v (.int .i64 0)), .d (.v (.int .i64 0)), .d (.v (.bool false)), .d (.v (.int .i64 0)), .z], [(0, 3), (1, 3), (2, 4), (3, 3), (4, 35)], 0, .i64⟩,
  ⟨1, 5, 56, [.d (.v (.int .i64 0)), .d (.v (.int .i64 0)), .d (.v (.bool false)), .d (.v (.int .i64 0)), .z], [(0, 3), (1, 3), (2, 4), (3, 3), (4, 35)], 0, .i64⟩,
  .bad,
  .bad,
  ⟨2, 1, 24, [.z], [], 84, .i64⟩,
  ⟨1, 5, 56, [.d (.v (.int .i64 0)), .d (.v (.int .i64 0)), .d (.v (.bool false)), .d (.v (.int .i64 0)), .z], [(0, 3), (1, 3), (2, 4), (3, 3), (4, 40)], 0, .i64⟩,
  ⟨1, 5, 56, [.d (.v (.int .i64 0)), .d (.v (.int .i64 0)), .d (.v (.bool false)), .d (.v (.int .i64 0)), .z], [(0, 3), (1, 3), (2, 4), (3, 3), (4, 40)], 0, .i64⟩,
  .bad,
  .bad,
  .bad,
  .bad,
  ⟨2, 1, 24, [.z], [], 72, .i64⟩,
  .bad,
  .bad,
  ⟨2, 1, 24, [.z], [], 74, .i64⟩,
  .bad,
  .bad,
  .bad,
  .bad,
  .bad,
  ⟨1, 3, 32, [.d (.v (.int .i64 0)), .d (.v (.int .i64 0)), .d (.v (.string ⟨#[]⟩))], [(0, 3), (1, 3), (2, 9)], 0, .i64⟩,
  ⟨1, 3, 32, [.d (.v (.int .i64 0)), .d (.v (.int .i64 0)), .d (.v (.string ⟨#[]⟩))], [(0, 3), (1, 3), (2, 9)], 0, .i64⟩,
  .bad,
  .bad,
  ⟨1, 3, 32, [.d (.v (.int .i64 0)), .d (.v (.int .i64 0)), .d (.v (.string ⟨#[]⟩))], [(0, 3), (1, 3), (2, 9)], 0, .i64⟩,
  .bad,
  .bad,
  .bad,
  .bad,
  .bad,
  .bad,
  .bad,
  .bad,
  .bad,
  .bad,
  ⟨1, 4, 56, [.d (.v (.int .i64 0)), .d (.v (.int .i64 0)), .d (.v (.string ⟨#[]⟩)), .z], [(0, 57), (3, 24)], 0, .i64⟩,
  ⟨1, 4, 56, [.d (.v (.int .i64 0)), .d (.v (.int .i64 0)), .d (.v (.string ⟨#[]⟩)), .z], [(0, 57), (3, 24)], 0, .i64⟩,
  ⟨1, 4, 56, [.d (.v (.int .i64 0)), .d (.v (.int .i64 0)), .d (.v (.string ⟨#[]⟩)), .z], [(0, 60), (3, 24)], 0, .i64⟩,
  ⟨1, 4, 56, [.d (.v (.int .i64 0)), .d (.v (.int .i64 0)), .d (.v (.string ⟨#[]⟩)), .z], [(0, 60), (3, 24)], 0, .i64⟩,
  .bad,
  .bad,
  .bad,
  .bad,
  .bad,
  .bad,
  ⟨1, 4, 48, [.d (.v (.string ⟨#[]⟩)), .d (.v (.int .i64 0)), .d (.v (.int .i64 0)), .d (.v (.string ⟨#[]⟩))], [(0, 9), (1, 57)], 0, .i64⟩,
  ⟨1, 4, 48, [.d (.v (.string ⟨#[]⟩)), .d (.v (.int .i64 0)), .d (.v (.int .i64 0)), .d (.v (.string ⟨#[]⟩))], [(0, 9), (1, 57)], 0, .i64⟩,
  ⟨1, 4, 48, [.d (.v (.string ⟨#[]⟩)), .d (.v (.int .i64 0)), .d (.v (.int .i64 0)), .d (.v (.string ⟨#[]⟩))], [(0, 9), (1, 60)], 0, .i64⟩,
  ⟨1, 4, 48, [.d (.v (.string ⟨#[]⟩)), .d (.v (.int .i64 0)), .d (.v (.int .i64 0)), .d (.v (.string ⟨#[]⟩))], [(0, 9), (1, 60)], 0, .i64⟩,
  .bad,
  .bad,
  .bad,
  ⟨2, 1, 24, [.z], [], 5, .i64⟩,
  .bad,
  .bad,
  .bad,
  .bad,
  .bad,
  .bad,
  .bad,
  .bad,
  ⟨3, 1, 1, [.d (.v (.int .u8 0))], [], 0, .u8⟩,
  ⟨3, 1, 1, [.d (.v (.int .u8 0))], [], 0, .u8⟩,
  .bad,
  .bad,
  .bad,
  .bad,
  .bad,
  .bad,
  .bad]
noncomputable def tt : Nat → Ty := fun t => ttl.getD t .bad
theorem ttOK : TyOK Try.prog tt := TyOK.of_list (by kernel_rfl)
theorem tts : tt 2 = ⟨3, 1, 8, [.d (.v (.int .i64 0))], [], 0, .i64⟩ ∧ tt 3 = ⟨3, 1, 8, [.d (.v (.int .i64 0))], [], 0, .i64⟩ ∧ tt 4 = ⟨4, 1, 1, [.d (.v (.bool false))], [], 0, .i64⟩ ∧ tt 5 = ⟨3, 1, 1, [.d (.v (.int .u8 0))], [], 0, .u8⟩ ∧ tt 6 = ⟨3, 1, 1, [.d (.v (.int .u8 0))], [], 0, .u8⟩ ∧ tt 7 = ⟨1, 4, 24, [.d (.v (.int .i64 0)), .d (.v (.int .i64 0)), .d (.v (.bool false)), .d (.v (.int .u8 0))], [(0, 2), (1, 3), (2, 4), (3, 6)], 0, .i64⟩ ∧ tt 8 = ⟨1, 4, 24, [.d (.v (.int .i64 0)), .d (.v (.int .i64 0)), .d (.v (.bool false)), .d (.v (.int .u8 0))], [(0, 2), (1, 3), (2, 4), (3, 6)], 0, .i64⟩ ∧ tt 9 = ⟨5, 1, 16, [.d (.v (.string ⟨#[]⟩))], [], 0, .i64⟩ ∧ tt 10 = ⟨5, 1, 16, [.d (.v (.string ⟨#[]⟩))], [], 0, .i64⟩ ∧ tt 11 = ⟨5, 1, 16, [.d (.v (.string ⟨#[]⟩))], [], 0, .i64⟩ ∧ tt 24 = ⟨2, 1, 24, [.z], [], 3, .i64⟩ ∧ tt 28 = ⟨1, 2, 24, [.d (.v (.string ⟨#[]⟩)), .d (.v (.int .i64 0))], [(0, 9), (1, 3)], 0, .i64⟩ ∧ tt 29 = ⟨1, 2, 24, [.d (.v (.string ⟨#[]⟩)), .d (.v (.int .i64 0))], [(0, 9), (1, 3)], 0, .i64⟩ ∧ tt 32 = ⟨1, 2, 24, [.d (.v (.string ⟨#[]⟩)), .d (.v (.int .i64 0))], [(0, 9), (1, 3)], 0, .i64⟩ ∧ tt 35 = ⟨2, 1, 24, [.z], [], 82, .i64⟩ ∧ tt 36 = ⟨1, 5, 56, [.d (.v (.int .i64 0)), .d (.v (.int .i64 0)), .d (.v (.bool false)), .d (.v (.int .i64 0)), .z], [(0, 3), (1, 3), (2, 4), (3, 3), (4, 35)], 0, .i64⟩ ∧ tt 37 = ⟨1, 5, 56, [.d (.v (.int .i64 0)), .d (.v (.int .i64 0)), .d (.v (.bool false)), .d (.v (.int .i64 0)), .z], [(0, 3), (1, 3), (2, 4), (3, 3), (4, 35)], 0, .i64⟩ ∧ tt 40 = ⟨2, 1, 24, [.z], [], 84, .i64⟩ ∧ tt 41 = ⟨1, 5, 56, [.d (.v (.int .i64 0)), .d (.v (.int .i64 0)), .d (.v (.bool false)), .d (.v (.int .i64 0)), .z], [(0, 3), (1, 3), (2, 4), (3, 3), (4, 40)], 0, .i64⟩ ∧ tt 42 = ⟨1, 5, 56, [.d (.v (.int .i64 0)), .d (.v (.int .i64 0)), .d (.v (.bool false)), .d (.v (.int .i64 0)), .z], [(0, 3), (1, 3), (2, 4), (3, 3), (4, 40)], 0, .i64⟩ ∧ tt 47 = ⟨2, 1, 24, [.z], [], 72, .i64⟩ ∧ tt 50 = ⟨2, 1, 24, [.z], [], 74, .i64⟩ ∧ tt 56 = ⟨1, 3, 32, [.d (.v (.int .i64 0)), .d (.v (.int .i64 0)), .d (.v (.string ⟨#[]⟩))], [(0, 3), (1, 3), (2, 9)], 0, .i64⟩ ∧ tt 57 = ⟨1, 3, 32, [.d (.v (.int .i64 0)), .d (.v (.int .i64 0)), .d (.v (.string ⟨#[]⟩))], [(0, 3), (1, 3), (2, 9)], 0, .i64⟩ ∧ tt 60 = ⟨1, 3, 32, [.d (.v (.int .i64 0)), .d (.v (.int .i64 0)), .d (.v (.string ⟨#[]⟩))], [(0, 3), (1, 3), (2, 9)], 0, .i64⟩ ∧ tt 71 = ⟨1, 4, 56, [.d (.v (.int .i64 0)), .d (.v (.int .i64 0)), .d (.v (.string ⟨#[]⟩)), .z], [(0, 57), (3, 24)], 0, .i64⟩ ∧ tt 72 = ⟨1, 4, 56, [.d (.v (.int .i64 0)), .d (.v (.int .i64 0)), .d (.v (.string ⟨#[]⟩)), .z], [(0, 57), (3, 24)], 0, .i64⟩ ∧ tt 73 = ⟨1, 4, 56, [.d (.v (.int .i64 0)), .d (.v (.int .i64 0)), .d (.v (.string ⟨#[]⟩)), .z], [(0, 60), (3, 24)], 0, .i64⟩ ∧ tt 74 = ⟨1, 4, 56, [.d (.v (.int .i64 0)), .d (.v (.int .i64 0)), .d (.v (.string ⟨#[]⟩)), .z], [(0, 60), (3, 24)], 0, .i64⟩ ∧ tt 81 = ⟨1, 4, 48, [.d (.v (.string ⟨#[]⟩)), .d (.v (.int .i64 0)), .d (.v (.int .i64 0)), .d (.v (.string ⟨#[]⟩))], [(0, 9), (1, 57)], 0, .i64⟩ ∧ tt 82 = ⟨1, 4, 48, [.d (.v (.string ⟨#[]⟩)), .d (.v (.int .i64 0)), .d (.v (.int .i64 0)), .d (.v (.string ⟨#[]⟩))], [(0, 9), (1, 57)], 0, .i64⟩ ∧ tt 83 = ⟨1, 4, 48, [.d (.v (.string ⟨#[]⟩)), .d (.v (.int .i64 0)), .d (.v (.int .i64 0)), .d (.v (.string ⟨#[]⟩))], [(0, 9), (1, 60)], 0, .i64⟩ ∧ tt 84 = ⟨1, 4, 48, [.d (.v (.string ⟨#[]⟩)), .d (.v (.int .i64 0)), .d (.v (.int .i64 0)), .d (.v (.string ⟨#[]⟩))], [(0, 9), (1, 60)], 0, .i64⟩ ∧ tt 88 = ⟨2, 1, 24, [.z], [], 5, .i64⟩ ∧ tt 97 = ⟨3, 1, 1, [.d (.v (.int .u8 0))], [], 0, .u8⟩ ∧ tt 98 = ⟨3, 1, 1, [.d (.v (.int .u8 0))], [], 0, .u8⟩ :=
  ⟨rfl, rfl, rfl, rfl, rfl, rfl, rfl, rfl, rfl, rfl, rfl, rfl, rfl, rfl, rfl, rfl, rfl, rfl, rfl, rfl, rfl, rfl, rfl, rfl, rfl, rfl, rfl, rfl, rfl, rfl, rfl, rfl, rfl, rfl, rfl, rfl⟩
def eqk : Nat → List Nat := fun t => if t = 29 then [3, 1] else if t = 32 then [3, 1] else if t = 57 then [1, 1, 3] else if t = 60 then [1, 1, 3] else if t = 82 then [3, 1, 1, 3] else if t = 84 then [3, 1, 1, 3] else []
theorem kind1_inv {v : Value} (h : kindV v = 1) : ∃ x : Int, v = .int .i64 x := by
  cases v with
  | int k n => cases k <;> simp_all [kindV]
  | _ => simp_all [kindV]
theorem kind2_inv {v : Value} (h : kindV v = 2) : ∃ x : Bool, v = .bool x := by
  cases v with
  | int k n => cases k <;> simp_all [kindV]
  | _ => simp_all [kindV]
theorem kind3_inv {v : Value} (h : kindV v = 3) : ∃ x : ByteArray, v = .string x := by
  cases v with
  | int k n => cases k <;> simp_all [kindV]
  | _ => simp_all [kindV]
theorem kinds29 {xs : List Value} (h : xs.map kindV = [3, 1]) : ∃ (x0 : ByteArray) (x1 : Int), xs = [.string x0, .int .i64 x1] := by
  obtain ⟨v0, xs, rfl⟩ : ∃ v l, xs = v :: l := by cases xs with
    | nil => simp at h
    | cons v l => exact ⟨v, l, rfl⟩
  simp only [List.map_cons, List.cons.injEq] at h
  obtain ⟨h0, h⟩ := h
  obtain ⟨v1, xs, rfl⟩ : ∃ v l, xs = v :: l := by cases xs with
    | nil => simp at h
    | cons v l => exact ⟨v, l, rfl⟩
  simp only [List.map_cons, List.cons.injEq] at h
  obtain ⟨h1, h⟩ := h
  have : xs = [] := by simpa using h
  subst this
  obtain ⟨x0, rfl⟩ := kind3_inv h0
  obtain ⟨x1, rfl⟩ := kind1_inv h1
  exact ⟨x0, x1, rfl⟩
theorem kinds32 {xs : List Value} (h : xs.map kindV = [3, 1]) : ∃ (x0 : ByteArray) (x1 : Int), xs = [.string x0, .int .i64 x1] := by
  obtain ⟨v0, xs, rfl⟩ : ∃ v l, xs = v :: l := by cases xs with
    | nil => simp at h
    | cons v l => exact ⟨v, l, rfl⟩
  simp only [List.map_cons, List.cons.injEq] at h
  obtain ⟨h0, h⟩ := h
  obtain ⟨v1, xs, rfl⟩ : ∃ v l, xs = v :: l := by cases xs with
    | nil => simp at h
    | cons v l => exact ⟨v, l, rfl⟩
  simp only [List.map_cons, List.cons.injEq] at h
  obtain ⟨h1, h⟩ := h
  have : xs = [] := by simpa using h
  subst this
  obtain ⟨x0, rfl⟩ := kind3_inv h0
  obtain ⟨x1, rfl⟩ := kind1_inv h1
  exact ⟨x0, x1, rfl⟩
theorem kinds57 {xs : List Value} (h : xs.map kindV = [1, 1, 3]) : ∃ (x0 : Int) (x1 : Int) (x2 : ByteArray), xs = [.int .i64 x0, .int .i64 x1, .string x2] := by
  obtain ⟨v0, xs, rfl⟩ : ∃ v l, xs = v :: l := by cases xs with
    | nil => simp at h
    | cons v l => exact ⟨v, l, rfl⟩
  simp only [List.map_cons, List.cons.injEq] at h
  obtain ⟨h0, h⟩ := h
  obtain ⟨v1, xs, rfl⟩ : ∃ v l, xs = v :: l := by cases xs with
    | nil => simp at h
    | cons v l => exact ⟨v, l, rfl⟩
  simp only [List.map_cons, List.cons.injEq] at h
  obtain ⟨h1, h⟩ := h
  obtain ⟨v2, xs, rfl⟩ : ∃ v l, xs = v :: l := by cases xs with
    | nil => simp at h
    | cons v l => exact ⟨v, l, rfl⟩
  simp only [List.map_cons, List.cons.injEq] at h
  obtain ⟨h2, h⟩ := h
  have : xs = [] := by simpa using h
  subst this
  obtain ⟨x0, rfl⟩ := kind1_inv h0
  obtain ⟨x1, rfl⟩ := kind1_inv h1
  obtain ⟨x2, rfl⟩ := kind3_inv h2
  exact ⟨x0, x1, x2, rfl⟩
theorem kinds60 {xs : List Value} (h : xs.map kindV = [1, 1, 3]) : ∃ (x0 : Int) (x1 : Int) (x2 : ByteArray), xs = [.int .i64 x0, .int .i64 x1, .string x2] := by
  obtain ⟨v0, xs, rfl⟩ : ∃ v l, xs = v :: l := by cases xs with
    | nil => simp at h
    | cons v l => exact ⟨v, l, rfl⟩
  simp only [List.map_cons, List.cons.injEq] at h
  obtain ⟨h0, h⟩ := h
  obtain ⟨v1, xs, rfl⟩ : ∃ v l, xs = v :: l := by cases xs with
    | nil => simp at h
    | cons v l => exact ⟨v, l, rfl⟩
  simp only [List.map_cons, List.cons.injEq] at h
  obtain ⟨h1, h⟩ := h
  obtain ⟨v2, xs, rfl⟩ : ∃ v l, xs = v :: l := by cases xs with
    | nil => simp at h
    | cons v l => exact ⟨v, l, rfl⟩
  simp only [List.map_cons, List.cons.injEq] at h
  obtain ⟨h2, h⟩ := h
  have : xs = [] := by simpa using h
  subst this
  obtain ⟨x0, rfl⟩ := kind1_inv h0
  obtain ⟨x1, rfl⟩ := kind1_inv h1
  obtain ⟨x2, rfl⟩ := kind3_inv h2
  exact ⟨x0, x1, x2, rfl⟩
theorem kinds82 {xs : List Value} (h : xs.map kindV = [3, 1, 1, 3]) : ∃ (x0 : ByteArray) (x1 : Int) (x2 : Int) (x3 : ByteArray), xs = [.string x0, .int .i64 x1, .int .i64 x2, .string x3] := by
  obtain ⟨v0, xs, rfl⟩ : ∃ v l, xs = v :: l := by cases xs with
    | nil => simp at h
    | cons v l => exact ⟨v, l, rfl⟩
  simp only [List.map_cons, List.cons.injEq] at h
  obtain ⟨h0, h⟩ := h
  obtain ⟨v1, xs, rfl⟩ : ∃ v l, xs = v :: l := by cases xs with
    | nil => simp at h
    | cons v l => exact ⟨v, l, rfl⟩
  simp only [List.map_cons, List.cons.injEq] at h
  obtain ⟨h1, h⟩ := h
  obtain ⟨v2, xs, rfl⟩ : ∃ v l, xs = v :: l := by cases xs with
    | nil => simp at h
    | cons v l => exact ⟨v, l, rfl⟩
  simp only [List.map_cons, List.cons.injEq] at h
  obtain ⟨h2, h⟩ := h
  obtain ⟨v3, xs, rfl⟩ : ∃ v l, xs = v :: l := by cases xs with
    | nil => simp at h
    | cons v l => exact ⟨v, l, rfl⟩
  simp only [List.map_cons, List.cons.injEq] at h
  obtain ⟨h3, h⟩ := h
  have : xs = [] := by simpa using h
  subst this
  obtain ⟨x0, rfl⟩ := kind3_inv h0
  obtain ⟨x1, rfl⟩ := kind1_inv h1
  obtain ⟨x2, rfl⟩ := kind1_inv h2
  obtain ⟨x3, rfl⟩ := kind3_inv h3
  exact ⟨x0, x1, x2, x3, rfl⟩
theorem kinds84 {xs : List Value} (h : xs.map kindV = [3, 1, 1, 3]) : ∃ (x0 : ByteArray) (x1 : Int) (x2 : Int) (x3 : ByteArray), xs = [.string x0, .int .i64 x1, .int .i64 x2, .string x3] := by
  obtain ⟨v0, xs, rfl⟩ : ∃ v l, xs = v :: l := by cases xs with
    | nil => simp at h
    | cons v l => exact ⟨v, l, rfl⟩
  simp only [List.map_cons, List.cons.injEq] at h
  obtain ⟨h0, h⟩ := h
  obtain ⟨v1, xs, rfl⟩ : ∃ v l, xs = v :: l := by cases xs with
    | nil => simp at h
    | cons v l => exact ⟨v, l, rfl⟩
  simp only [List.map_cons, List.cons.injEq] at h
  obtain ⟨h1, h⟩ := h
  obtain ⟨v2, xs, rfl⟩ : ∃ v l, xs = v :: l := by cases xs with
    | nil => simp at h
    | cons v l => exact ⟨v, l, rfl⟩
  simp only [List.map_cons, List.cons.injEq] at h
  obtain ⟨h2, h⟩ := h
  obtain ⟨v3, xs, rfl⟩ : ∃ v l, xs = v :: l := by cases xs with
    | nil => simp at h
    | cons v l => exact ⟨v, l, rfl⟩
  simp only [List.map_cons, List.cons.injEq] at h
  obtain ⟨h3, h⟩ := h
  have : xs = [] := by simpa using h
  subst this
  obtain ⟨x0, rfl⟩ := kind3_inv h0
  obtain ⟨x1, rfl⟩ := kind1_inv h1
  obtain ⟨x2, rfl⟩ := kind1_inv h2
  obtain ⟨x3, rfl⟩ := kind3_inv h3
  exact ⟨x0, x1, x2, x3, rfl⟩
set_option maxHeartbeats 1000000 in
theorem eqT29 : EqT Try.prog 29 [3, 1] := by
  refine ⟨by decide, fun w xs ys hx hy => ?_, fun w xs ys hx hy => ?_, fun op x y xs ys w => run_eqGuard_agg w op 29 x y xs ys Try.eqGuardType29⟩
  · obtain ⟨x0, x1, hx⟩ := kinds29 hx
    obtain ⟨y0, y1, hy⟩ := kinds29 hy
    subst hx; subst hy
    simp [go_sem, eqVs, eqV, beq_int, beq_bytes]
    (repeat' split) <;> simp_all
  · obtain ⟨x0, x1, hx⟩ := kinds29 hx
    obtain ⟨y0, y1, hy⟩ := kinds29 hy
    subst hx; subst hy
    simp [go_sem, eqVs, eqV, beq_int, beq_bytes]
    (repeat' split) <;> simp_all
set_option maxHeartbeats 1000000 in
theorem eqT32 : EqT Try.prog 32 [3, 1] := by
  refine ⟨by decide, fun w xs ys hx hy => ?_, fun w xs ys hx hy => ?_, fun op x y xs ys w => run_eqGuard_agg w op 32 x y xs ys Try.eqGuardType32⟩
  · obtain ⟨x0, x1, hx⟩ := kinds32 hx
    obtain ⟨y0, y1, hy⟩ := kinds32 hy
    subst hx; subst hy
    simp [go_sem, eqVs, eqV, beq_int, beq_bytes]
    (repeat' split) <;> simp_all
  · obtain ⟨x0, x1, hx⟩ := kinds32 hx
    obtain ⟨y0, y1, hy⟩ := kinds32 hy
    subst hx; subst hy
    simp [go_sem, eqVs, eqV, beq_int, beq_bytes]
    (repeat' split) <;> simp_all
set_option maxHeartbeats 1000000 in
theorem eqT57 : EqT Try.prog 57 [1, 1, 3] := by
  refine ⟨by decide, fun w xs ys hx hy => ?_, fun w xs ys hx hy => ?_, fun op x y xs ys w => run_eqGuard_agg w op 57 x y xs ys Try.eqGuardType57⟩
  · obtain ⟨x0, x1, x2, hx⟩ := kinds57 hx
    obtain ⟨y0, y1, y2, hy⟩ := kinds57 hy
    subst hx; subst hy
    simp [go_sem, eqVs, eqV, beq_int, beq_bytes]
    (repeat' split) <;> simp_all
  · obtain ⟨x0, x1, x2, hx⟩ := kinds57 hx
    obtain ⟨y0, y1, y2, hy⟩ := kinds57 hy
    subst hx; subst hy
    simp [go_sem, eqVs, eqV, beq_int, beq_bytes]
    (repeat' split) <;> simp_all
set_option maxHeartbeats 1000000 in
theorem eqT60 : EqT Try.prog 60 [1, 1, 3] := by
  refine ⟨by decide, fun w xs ys hx hy => ?_, fun w xs ys hx hy => ?_, fun op x y xs ys w => run_eqGuard_agg w op 60 x y xs ys Try.eqGuardType60⟩
  · obtain ⟨x0, x1, x2, hx⟩ := kinds60 hx
    obtain ⟨y0, y1, y2, hy⟩ := kinds60 hy
    subst hx; subst hy
    simp [go_sem, eqVs, eqV, beq_int, beq_bytes]
    (repeat' split) <;> simp_all
  · obtain ⟨x0, x1, x2, hx⟩ := kinds60 hx
    obtain ⟨y0, y1, y2, hy⟩ := kinds60 hy
    subst hx; subst hy
    simp [go_sem, eqVs, eqV, beq_int, beq_bytes]
    (repeat' split) <;> simp_all
set_option maxHeartbeats 1000000 in
theorem eqT82 : EqT Try.prog 82 [3, 1, 1, 3] := by
  refine ⟨by decide, fun w xs ys hx hy => ?_, fun w xs ys hx hy => ?_, fun op x y xs ys w => run_eqGuard_agg w op 82 x y xs ys Try.eqGuardType82⟩
  · obtain ⟨x0, x1, x2, x3, hx⟩ := kinds82 hx
    obtain ⟨y0, y1, y2, y3, hy⟩ := kinds82 hy
    subst hx; subst hy
    simp [go_sem, eqVs, eqV, beq_int, beq_bytes]
    (repeat' split) <;> simp_all
  · obtain ⟨x0, x1, x2, x3, hx⟩ := kinds82 hx
    obtain ⟨y0, y1, y2, y3, hy⟩ := kinds82 hy
    subst hx; subst hy
    simp [go_sem, eqVs, eqV, beq_int, beq_bytes]
    (repeat' split) <;> simp_all
set_option maxHeartbeats 1000000 in
theorem eqT84 : EqT Try.prog 84 [3, 1, 1, 3] := by
  refine ⟨by decide, fun w xs ys hx hy => ?_, fun w xs ys hx hy => ?_, fun op x y xs ys w => run_eqGuard_agg w op 84 x y xs ys Try.eqGuardType84⟩
  · obtain ⟨x0, x1, x2, x3, hx⟩ := kinds84 hx
    obtain ⟨y0, y1, y2, y3, hy⟩ := kinds84 hy
    subst hx; subst hy
    simp [go_sem, eqVs, eqV, beq_int, beq_bytes]
    (repeat' split) <;> simp_all
  · obtain ⟨x0, x1, x2, x3, hx⟩ := kinds84 hx
    obtain ⟨y0, y1, y2, y3, hy⟩ := kinds84 hy
    subst hx; subst hy
    simp [go_sem, eqVs, eqV, beq_int, beq_bytes]
    (repeat' split) <;> simp_all
theorem eqOK : ∀ t, eqk t ≠ [] → EqT Try.prog t (eqk t) := by
  intro t h
  unfold eqk at h ⊢
  by_cases e29 : t = 29
  · subst e29; exact eqT29
  simp only [e29, if_false] at h ⊢
  by_cases e32 : t = 32
  · subst e32; exact eqT32
  simp only [e32, if_false] at h ⊢
  by_cases e57 : t = 57
  · subst e57; exact eqT57
  simp only [e57, if_false] at h ⊢
  by_cases e60 : t = 60
  · subst e60; exact eqT60
  simp only [e60, if_false] at h ⊢
  by_cases e82 : t = 82
  · subst e82; exact eqT82
  simp only [e82, if_false] at h ⊢
  by_cases e84 : t = 84
  · subst e84; exact eqT84
  simp only [e84, if_false] at h ⊢
  exact (h rfl).elim
noncomputable def EV (C : Ctx) : Env := ⟨Try.prog, tt, C, eqk⟩
theorem EV_T (C : Ctx) : (EV C).T = tt := rfl
theorem EV_q (C : Ctx) : (EV C).eqk = eqk := rfl
attribute [go_sem] tts EV_T EV_q eqk
theorem reg {C : Ctx} {id : Nat} {ops : List Oper} {F : Ex → St → Prop} {st : St} (h : vcOps (EV C) ops ops st (F .normal)) : WP Try.prog C (.region id ops.toArray false) F st := WP_region (E := EV C) ttOK eqOK h
theorem cnd {C : Ctx} {c : Operand} {x y : Code} {F : Ex → St → Prop} {st : St} {b : Bool} (hc : ev st c = .o (.d (.v (.bool b)))) (h1 : b = true → WP Try.prog C x F st) (h2 : b = false → WP Try.prog C y F st) : WP Try.prog C (.cond c x y) F st := WP_cond (E := EV C) hc h1 h2
theorem cal {C : Ctx} {f : Nat} {args args' : List SV} {res : SV} {st : St} {K : St → SV → Prop} (h : FnC Try.prog f args' res) (he : args.map (pureS (frzH st.h (idsS args))) = args') (hfree : args'.all freeS = true) (k : K ⟨st.t, frzH st.h (idsS args) ++ adH res.all⟩ (adS (frzH st.h (idsS args)).length res)) : CallS (EV C) f args st K := CallS.frz (E := EV C) h he hfree k
theorem cndt {C : Ctx} {c : Operand} {x y : Code} {F : Ex → St → Prop} {st : St} (hc : ev st c = .o (.d (.v (.bool true)))) (h : WP Try.prog C x F st) : WP Try.prog C (.cond c x y) F st := cnd_t (E := EV C) hc h
theorem cndf {C : Ctx} {c : Operand} {x y : Code} {F : Ex → St → Prop} {st : St} (hc : ev st c = .o (.d (.v (.bool false)))) (h : WP Try.prog C y F st) : WP Try.prog C (.cond c x y) F st := cnd_f (E := EV C) hc h
theorem fol : Try.prog.follows .mixedOrders = true := by kernel_rfl
theorem regd {C : Ctx} {id : Nat} {ops : List Oper} {F : Ex → St → Prop} {st : St} (hB : Region.lexB .any ops.toArray = true) (h : vcDs (EV C) ops ops st (F .normal)) : WP Try.prog C (.region id ops.toArray true) F st := WP_draw (E := EV C) ttOK eqOK fol hB h
theorem cald {C : Ctx} {f : Nat} {args args' : List SV} {res : SV} {h : List HB} {k : SV → Prop} (hf : FnC Try.prog f args' res) (h1 : args.map (pureS h) = args') (h2 : args'.all freeS = true) (h3 : res.all.all isD = true) (hk : k res) : CallD (EV C) f args h k := CallD.of_fn (E := EV C) hf h1 h2 h3 hk
theorem ent {f : Nat} {fn : Func} {c : Code} {rs : List ResultVar} {args : List SV} {res : SV} (hf : Try.prog.funcs[f]? = some fn) (hb : fn.body = some c) (hcall : ∀ x w, (callFunc f x).run Try.prog w = .ok (.enter f x) w) (hres : fn.results = rs.toArray)
    (h : ∀ C : Ctx, WP Try.prog C c (kont Try.prog C [] (retK (EV C) rs res)) (st0 args fn.ntmps)) : FnC Try.prog f args res := FnC.of_wp (eqk := eqk) ttOK hf hb hcall hres fun C _ => h C
end Go.Proofs.Ytbplbpdfpcocgaa
