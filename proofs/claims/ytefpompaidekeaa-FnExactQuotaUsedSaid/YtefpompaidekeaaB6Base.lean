/-
  The table of this translation's types, by program (gentypes.py), and that it is what the program says.
-/
import Derived.Test.YtefpompaidekeaaProg
import Derived.Test.YtefpompaidekeaaB5Set
import Derived.KernelRfl
set_option linter.all false
namespace Go.Proofs.Ytefpompaidekeaa
open Go Go.Sx Go.RowKit

noncomputable def ttl : List Ty := [.bad,
  .bad,
  ⟨3, 1, 8, [.d (.v (.int .i64 0))], [], 0, .i64⟩,
  ⟨3, 1, 8, [.d (.v (.int .i64 0))], [], 0, .i64⟩,
  ⟨4, 1, 1, [.d (.v (.bool false))], [], 0, .i64⟩,
  ⟨3, 1, 1, [.d (.v (.int .u8 0))], [], 0, .u8⟩,
  ⟨3, 1, 1, [.d (.v (.int .u8 0))], [], 0, .u8⟩,
  ⟨1, 4, 24, [.d (.v (.int .i64 0)), .d (.v (.int .i64 0)), .d (.v (.bool false)), .d (.v (.int .u8 0))], [(0, 2), (1, 3), (2, 4), (3, 6)], 0, .i64⟩,
  ⟨1, 4, 24, [.d (.v (.int .i64 0)), .d (.v (.int .i64 0)), .d (.v (.bool false)), .d (.v (.int .u8 0))], [(0, 2), (1, 3), (2, 4), (3, 6)], 0, .i64⟩,
  ⟨5, 1, 16, [.d (.v (.string ⟨#[]⟩))], [], 0, .i64⟩,
  ⟨5, 1, 16, [.d (.v (.string ⟨#[]⟩))], [], 0, .i64⟩,
  ⟨5, 1, 16, [.d (.v (.string ⟨#[]⟩))], [], 0, .i64⟩,
  .bad,
  .bad,
  .bad,
  .bad,
  .bad,
  .bad,
  .bad,
  .bad,
  .bad,
  .bad,
  ⟨2, 1, 24, [.z], [], 129, .i64⟩,
  ⟨1, 5, 56, [.d (.v (.int .i64 0)), .d (.v (.int .i64 0)), .d (.v (.bool false)), .d (.v (.int .i64 0)), .z], [(0, 3), (1, 3), (2, 4), (3, 3), (4, 22)], 0, .i64⟩,
  ⟨1, 5, 56, [.d (.v (.int .i64 0)), .d (.v (.int .i64 0)), .d (.v (.bool false)), .d (.v (.int .i64 0)), .z], [(0, 3), (1, 3), (2, 4), (3, 3), (4, 22)], 0, .i64⟩,
  ⟨2, 1, 24, [.z], [], 132, .i64⟩,
  ⟨1, 2, 40, [.d (.v (.string ⟨#[]⟩)), .z], [(0, 9), (1, 25)], 0, .i64⟩,
  ⟨1, 2, 40, [.d (.v (.string ⟨#[]⟩)), .z], [(0, 9), (1, 25)], 0, .i64⟩,
  ⟨1, 9, 112, [.d (.v (.int .i64 0)), .d (.v (.int .i64 0)), .d (.v (.int .i64 0)), .d (.v (.bool false)), .d (.v (.int .i64 0)), .z, .d (.v (.int .i64 0)), .d (.v (.string ⟨#[]⟩)), .z], [(0, 3), (1, 24), (6, 3), (7, 27)], 0, .i64⟩,
  ⟨1, 9, 112, [.d (.v (.int .i64 0)), .d (.v (.int .i64 0)), .d (.v (.int .i64 0)), .d (.v (.bool false)), .d (.v (.int .i64 0)), .z, .d (.v (.int .i64 0)), .d (.v (.string ⟨#[]⟩)), .z], [(0, 3), (1, 24), (6, 3), (7, 27)], 0, .i64⟩,
  .bad,
  .bad,
  ⟨2, 1, 24, [.z], [], 135, .i64⟩,
  ⟨1, 5, 56, [.d (.v (.int .i64 0)), .d (.v (.int .i64 0)), .d (.v (.bool false)), .d (.v (.int .i64 0)), .z], [(0, 3), (1, 3), (2, 4), (3, 3), (4, 32)], 0, .i64⟩,
  ⟨1, 5, 56, [.d (.v (.int .i64 0)), .d (.v (.int .i64 0)), .d (.v (.bool false)), .d (.v (.int .i64 0)), .z], [(0, 3), (1, 3), (2, 4), (3, 3), (4, 32)], 0, .i64⟩,
  ⟨2, 1, 24, [.z], [], 138, .i64⟩,
  ⟨1, 2, 40, [.d (.v (.string ⟨#[]⟩)), .z], [(0, 9), (1, 35)], 0, .i64⟩,
  ⟨1, 2, 40, [.d (.v (.string ⟨#[]⟩)), .z], [(0, 9), (1, 35)], 0, .i64⟩,
  ⟨1, 9, 112, [.d (.v (.int .i64 0)), .d (.v (.int .i64 0)), .d (.v (.int .i64 0)), .d (.v (.bool false)), .d (.v (.int .i64 0)), .z, .d (.v (.int .i64 0)), .d (.v (.string ⟨#[]⟩)), .z], [(0, 3), (1, 34), (6, 3), (7, 37)], 0, .i64⟩,
  ⟨1, 9, 112, [.d (.v (.int .i64 0)), .d (.v (.int .i64 0)), .d (.v (.int .i64 0)), .d (.v (.bool false)), .d (.v (.int .i64 0)), .z, .d (.v (.int .i64 0)), .d (.v (.string ⟨#[]⟩)), .z], [(0, 3), (1, 34), (6, 3), (7, 37)], 0, .i64⟩,
  .bad,
  .bad,
  .bad,
  ⟨2, 1, 24, [.z], [], 112, .i64⟩,
  ⟨2, 1, 24, [.z], [], 24, .i64⟩,
  ⟨1, 3, 56, [.z, .z, .d (.v (.int .i64 0))], [(0, 43), (1, 44), (2, 3)], 0, .i64⟩,
  ⟨1, 3, 56, [.z, .z, .d (.v (.int .i64 0))], [(0, 43), (1, 44), (2, 3)], 0, .i64⟩,
  .bad,
  .bad,
  ⟨2, 1, 24, [.z], [], 113, .i64⟩,
  ⟨2, 1, 24, [.z], [], 34, .i64⟩,
  ⟨1, 3, 56, [.z, .z, .d (.v (.int .i64 0))], [(0, 49), (1, 50), (2, 3)], 0, .i64⟩,
  ⟨1, 3, 56, [.z, .z, .d (.v (.int .i64 0))], [(0, 49), (1, 50), (2, 3)], 0, .i64⟩,
  .bad,
  .bad,
  .bad,
  ⟨2, 1, 24, [.z], [], 3, .i64⟩,
  .bad,
  .bad,
  .bad,
  .bad,
  .bad,
  .bad,
  ⟨2, 1, 24, [.z], [], 27, .i64⟩,
  ⟨1, 4, 80, [.z, .z, .d (.v (.int .i64 0)), .z], [(0, 46), (3, 63)], 0, .i64⟩,
  ⟨1, 4, 80, [.z, .z, .d (.v (.int .i64 0)), .z], [(0, 46), (3, 63)], 0, .i64⟩,
  .bad,
  .bad,
  ⟨2, 1, 24, [.z], [], 37, .i64⟩,
  ⟨1, 4, 80, [.z, .z, .d (.v (.int .i64 0)), .z], [(0, 52), (3, 68)], 0, .i64⟩,
  ⟨1, 4, 80, [.z, .z, .d (.v (.int .i64 0)), .z], [(0, 52), (3, 68)], 0, .i64⟩,
  .bad,
  .bad,
  ⟨2, 1, 24, [.z], [], 120, .i64⟩,
  ⟨1, 5, 104, [.z, .z, .d (.v (.int .i64 0)), .z, .z], [(0, 46), (3, 63), (4, 73)], 0, .i64⟩,
  ⟨1, 5, 104, [.z, .z, .d (.v (.int .i64 0)), .z, .z], [(0, 46), (3, 63), (4, 73)], 0, .i64⟩,
  .bad,
  .bad,
  ⟨2, 1, 24, [.z], [], 121, .i64⟩,
  ⟨1, 5, 104, [.z, .z, .d (.v (.int .i64 0)), .z, .z], [(0, 52), (3, 68), (4, 78)], 0, .i64⟩,
  ⟨1, 5, 104, [.z, .z, .d (.v (.int .i64 0)), .z, .z], [(0, 52), (3, 68), (4, 78)], 0, .i64⟩,
  .bad,
  .bad,
  .bad,
  .bad,
  .bad,
  .bad,
  .bad,
  .bad,
  .bad,
  .bad,
  .bad,
  .bad,
  .bad,
  .bad,
  .bad,
  .bad,
  .bad,
  .bad,
  .bad,
  .bad,
  .bad,
  .bad,
  .bad,
  .bad,
  .bad,
  .bad,
  .bad,
  .bad,
  .bad,
  .bad,
  ⟨1, 2, 24, [.d (.v (.string ⟨#[]⟩)), .d (.v (.int .i64 0))], [(0, 9), (1, 3)], 0, .i64⟩,
  ⟨1, 2, 24, [.d (.v (.string ⟨#[]⟩)), .d (.v (.int .i64 0))], [(0, 9), (1, 3)], 0, .i64⟩,
  ⟨1, 2, 24, [.d (.v (.string ⟨#[]⟩)), .d (.v (.int .i64 0))], [(0, 9), (1, 3)], 0, .i64⟩,
  .bad,
  .bad,
  .bad,
  .bad,
  .bad,
  ⟨1, 2, 40, [.d (.v (.string ⟨#[]⟩)), .z], [(0, 9), (1, 56)], 0, .i64⟩,
  ⟨1, 2, 40, [.d (.v (.string ⟨#[]⟩)), .z], [(0, 9), (1, 56)], 0, .i64⟩,
  ⟨1, 2, 40, [.d (.v (.string ⟨#[]⟩)), .z], [(0, 9), (1, 56)], 0, .i64⟩,
  .bad,
  .bad,
  .bad,
  .bad,
  ⟨1, 3, 32, [.d (.v (.int .i64 0)), .d (.v (.int .i64 0)), .d (.v (.string ⟨#[]⟩))], [(0, 3), (1, 3), (2, 9)], 0, .i64⟩,
  ⟨1, 3, 32, [.d (.v (.int .i64 0)), .d (.v (.int .i64 0)), .d (.v (.string ⟨#[]⟩))], [(0, 3), (1, 3), (2, 9)], 0, .i64⟩,
  ⟨1, 4, 48, [.d (.v (.string ⟨#[]⟩)), .d (.v (.int .i64 0)), .d (.v (.int .i64 0)), .d (.v (.string ⟨#[]⟩))], [(0, 9), (1, 127)], 0, .i64⟩,
  ⟨1, 4, 48, [.d (.v (.string ⟨#[]⟩)), .d (.v (.int .i64 0)), .d (.v (.int .i64 0)), .d (.v (.string ⟨#[]⟩))], [(0, 9), (1, 127)], 0, .i64⟩,
  .bad,
  ⟨1, 7, 72, [.d (.v (.int .i64 0)), .d (.v (.int .i64 0)), .d (.v (.int .i64 0)), .d (.v (.string ⟨#[]⟩)), .d (.v (.int .i64 0)), .d (.v (.int .i64 0)), .d (.v (.string ⟨#[]⟩))], [(0, 3), (1, 3), (2, 3), (3, 9), (4, 127)], 0, .i64⟩,
  ⟨1, 7, 72, [.d (.v (.int .i64 0)), .d (.v (.int .i64 0)), .d (.v (.int .i64 0)), .d (.v (.string ⟨#[]⟩)), .d (.v (.int .i64 0)), .d (.v (.int .i64 0)), .d (.v (.string ⟨#[]⟩))], [(0, 3), (1, 3), (2, 3), (3, 9), (4, 127)], 0, .i64⟩,
  ⟨1, 3, 32, [.d (.v (.int .i64 0)), .d (.v (.int .i64 0)), .d (.v (.string ⟨#[]⟩))], [(0, 3), (1, 3), (2, 9)], 0, .i64⟩,
  ⟨1, 4, 48, [.d (.v (.string ⟨#[]⟩)), .d (.v (.int .i64 0)), .d (.v (.int .i64 0)), .d (.v (.string ⟨#[]⟩))], [(0, 9), (1, 133)], 0, .i64⟩,
  ⟨1, 4, 48, [.d (.v (.string ⟨#[]⟩)), .d (.v (.int .i64 0)), .d (.v (.int .i64 0)), .d (.v (.string ⟨#[]⟩))], [(0, 9), (1, 133)], 0, .i64⟩,
  .bad,
  ⟨1, 7, 72, [.d (.v (.int .i64 0)), .d (.v (.int .i64 0)), .d (.v (.int .i64 0)), .d (.v (.string ⟨#[]⟩)), .d (.v (.int .i64 0)), .d (.v (.int .i64 0)), .d (.v (.string ⟨#[]⟩))], [(0, 3), (1, 3), (2, 3), (3, 9), (4, 133)], 0, .i64⟩,
  ⟨1, 7, 72, [.d (.v (.int .i64 0)), .d (.v (.int .i64 0)), .d (.v (.int .i64 0)), .d (.v (.string ⟨#[]⟩)), .d (.v (.int .i64 0)), .d (.v (.int .i64 0)), .d (.v (.string ⟨#[]⟩))], [(0, 3), (1, 3), (2, 3), (3, 9), (4, 133)], 0, .i64⟩,
  .bad,
  .bad,
  .bad,
  .bad,
  .bad,
  .bad,
  .bad,
  .bad,
  .bad,
  .bad,
  .bad,
  .bad,
  .bad,
  .bad,
  ⟨3, 1, 1, [.d (.v (.int .u8 0))], [], 0, .u8⟩,
  ⟨3, 1, 1, [.d (.v (.int .u8 0))], [], 0, .u8⟩,
  .bad,
  .bad,
  .bad,
  .bad,
  .bad,
  .bad,
  .bad]
noncomputable def tt : Nat → Ty := fun t => ttl.getD t .bad
theorem ttOK : TyOK Try.prog tt := TyOK.of_list (by kernel_rfl)
theorem tts : tt 2 = ⟨3, 1, 8, [.d (.v (.int .i64 0))], [], 0, .i64⟩ ∧ tt 3 = ⟨3, 1, 8, [.d (.v (.int .i64 0))], [], 0, .i64⟩ ∧ tt 4 = ⟨4, 1, 1, [.d (.v (.bool false))], [], 0, .i64⟩ ∧ tt 5 = ⟨3, 1, 1, [.d (.v (.int .u8 0))], [], 0, .u8⟩ ∧ tt 6 = ⟨3, 1, 1, [.d (.v (.int .u8 0))], [], 0, .u8⟩ ∧ tt 7 = ⟨1, 4, 24, [.d (.v (.int .i64 0)), .d (.v (.int .i64 0)), .d (.v (.bool false)), .d (.v (.int .u8 0))], [(0, 2), (1, 3), (2, 4), (3, 6)], 0, .i64⟩ ∧ tt 8 = ⟨1, 4, 24, [.d (.v (.int .i64 0)), .d (.v (.int .i64 0)), .d (.v (.bool false)), .d (.v (.int .u8 0))], [(0, 2), (1, 3), (2, 4), (3, 6)], 0, .i64⟩ ∧ tt 9 = ⟨5, 1, 16, [.d (.v (.string ⟨#[]⟩))], [], 0, .i64⟩ ∧ tt 10 = ⟨5, 1, 16, [.d (.v (.string ⟨#[]⟩))], [], 0, .i64⟩ ∧ tt 11 = ⟨5, 1, 16, [.d (.v (.string ⟨#[]⟩))], [], 0, .i64⟩ ∧ tt 22 = ⟨2, 1, 24, [.z], [], 129, .i64⟩ ∧ tt 23 = ⟨1, 5, 56, [.d (.v (.int .i64 0)), .d (.v (.int .i64 0)), .d (.v (.bool false)), .d (.v (.int .i64 0)), .z], [(0, 3), (1, 3), (2, 4), (3, 3), (4, 22)], 0, .i64⟩ ∧ tt 24 = ⟨1, 5, 56, [.d (.v (.int .i64 0)), .d (.v (.int .i64 0)), .d (.v (.bool false)), .d (.v (.int .i64 0)), .z], [(0, 3), (1, 3), (2, 4), (3, 3), (4, 22)], 0, .i64⟩ ∧ tt 25 = ⟨2, 1, 24, [.z], [], 132, .i64⟩ ∧ tt 26 = ⟨1, 2, 40, [.d (.v (.string ⟨#[]⟩)), .z], [(0, 9), (1, 25)], 0, .i64⟩ ∧ tt 27 = ⟨1, 2, 40, [.d (.v (.string ⟨#[]⟩)), .z], [(0, 9), (1, 25)], 0, .i64⟩ ∧ tt 28 = ⟨1, 9, 112, [.d (.v (.int .i64 0)), .d (.v (.int .i64 0)), .d (.v (.int .i64 0)), .d (.v (.bool false)), .d (.v (.int .i64 0)), .z, .d (.v (.int .i64 0)), .d (.v (.string ⟨#[]⟩)), .z], [(0, 3), (1, 24), (6, 3), (7, 27)], 0, .i64⟩ ∧ tt 29 = ⟨1, 9, 112, [.d (.v (.int .i64 0)), .d (.v (.int .i64 0)), .d (.v (.int .i64 0)), .d (.v (.bool false)), .d (.v (.int .i64 0)), .z, .d (.v (.int .i64 0)), .d (.v (.string ⟨#[]⟩)), .z], [(0, 3), (1, 24), (6, 3), (7, 27)], 0, .i64⟩ ∧ tt 32 = ⟨2, 1, 24, [.z], [], 135, .i64⟩ ∧ tt 33 = ⟨1, 5, 56, [.d (.v (.int .i64 0)), .d (.v (.int .i64 0)), .d (.v (.bool false)), .d (.v (.int .i64 0)), .z], [(0, 3), (1, 3), (2, 4), (3, 3), (4, 32)], 0, .i64⟩ ∧ tt 34 = ⟨1, 5, 56, [.d (.v (.int .i64 0)), .d (.v (.int .i64 0)), .d (.v (.bool false)), .d (.v (.int .i64 0)), .z], [(0, 3), (1, 3), (2, 4), (3, 3), (4, 32)], 0, .i64⟩ ∧ tt 35 = ⟨2, 1, 24, [.z], [], 138, .i64⟩ ∧ tt 36 = ⟨1, 2, 40, [.d (.v (.string ⟨#[]⟩)), .z], [(0, 9), (1, 35)], 0, .i64⟩ ∧ tt 37 = ⟨1, 2, 40, [.d (.v (.string ⟨#[]⟩)), .z], [(0, 9), (1, 35)], 0, .i64⟩ ∧ tt 38 = ⟨1, 9, 112, [.d (.v (.int .i64 0)), .d (.v (.int .i64 0)), .d (.v (.int .i64 0)), .d (.v (.bool false)), .d (.v (.int .i64 0)), .z, .d (.v (.int .i64 0)), .d (.v (.string ⟨#[]⟩)), .z], [(0, 3), (1, 34), (6, 3), (7, 37)], 0, .i64⟩ ∧ tt 39 = ⟨1, 9, 112, [.d (.v (.int .i64 0)), .d (.v (.int .i64 0)), .d (.v (.int .i64 0)), .d (.v (.bool false)), .d (.v (.int .i64 0)), .z, .d (.v (.int .i64 0)), .d (.v (.string ⟨#[]⟩)), .z], [(0, 3), (1, 34), (6, 3), (7, 37)], 0, .i64⟩ ∧ tt 43 = ⟨2, 1, 24, [.z], [], 112, .i64⟩ ∧ tt 44 = ⟨2, 1, 24, [.z], [], 24, .i64⟩ ∧ tt 45 = ⟨1, 3, 56, [.z, .z, .d (.v (.int .i64 0))], [(0, 43), (1, 44), (2, 3)], 0, .i64⟩ ∧ tt 46 = ⟨1, 3, 56, [.z, .z, .d (.v (.int .i64 0))], [(0, 43), (1, 44), (2, 3)], 0, .i64⟩ ∧ tt 49 = ⟨2, 1, 24, [.z], [], 113, .i64⟩ ∧ tt 50 = ⟨2, 1, 24, [.z], [], 34, .i64⟩ ∧ tt 51 = ⟨1, 3, 56, [.z, .z, .d (.v (.int .i64 0))], [(0, 49), (1, 50), (2, 3)], 0, .i64⟩ ∧ tt 52 = ⟨1, 3, 56, [.z, .z, .d (.v (.int .i64 0))], [(0, 49), (1, 50), (2, 3)], 0, .i64⟩ ∧ tt 56 = ⟨2, 1, 24, [.z], [], 3, .i64⟩ ∧ tt 63 = ⟨2, 1, 24, [.z], [], 27, .i64⟩ ∧ tt 64 = ⟨1, 4, 80, [.z, .z, .d (.v (.int .i64 0)), .z], [(0, 46), (3, 63)], 0, .i64⟩ ∧ tt 65 = ⟨1, 4, 80, [.z, .z, .d (.v (.int .i64 0)), .z], [(0, 46), (3, 63)], 0, .i64⟩ ∧ tt 68 = ⟨2, 1, 24, [.z], [], 37, .i64⟩ ∧ tt 69 = ⟨1, 4, 80, [.z, .z, .d (.v (.int .i64 0)), .z], [(0, 52), (3, 68)], 0, .i64⟩ ∧ tt 70 = ⟨1, 4, 80, [.z, .z, .d (.v (.int .i64 0)), .z], [(0, 52), (3, 68)], 0, .i64⟩ ∧ tt 73 = ⟨2, 1, 24, [.z], [], 120, .i64⟩ ∧ tt 74 = ⟨1, 5, 104, [.z, .z, .d (.v (.int .i64 0)), .z, .z], [(0, 46), (3, 63), (4, 73)], 0, .i64⟩ ∧ tt 75 = ⟨1, 5, 104, [.z, .z, .d (.v (.int .i64 0)), .z, .z], [(0, 46), (3, 63), (4, 73)], 0, .i64⟩ ∧ tt 78 = ⟨2, 1, 24, [.z], [], 121, .i64⟩ ∧ tt 79 = ⟨1, 5, 104, [.z, .z, .d (.v (.int .i64 0)), .z, .z], [(0, 52), (3, 68), (4, 78)], 0, .i64⟩ ∧ tt 80 = ⟨1, 5, 104, [.z, .z, .d (.v (.int .i64 0)), .z, .z], [(0, 52), (3, 68), (4, 78)], 0, .i64⟩ ∧ tt 111 = ⟨1, 2, 24, [.d (.v (.string ⟨#[]⟩)), .d (.v (.int .i64 0))], [(0, 9), (1, 3)], 0, .i64⟩ ∧ tt 112 = ⟨1, 2, 24, [.d (.v (.string ⟨#[]⟩)), .d (.v (.int .i64 0))], [(0, 9), (1, 3)], 0, .i64⟩ ∧ tt 113 = ⟨1, 2, 24, [.d (.v (.string ⟨#[]⟩)), .d (.v (.int .i64 0))], [(0, 9), (1, 3)], 0, .i64⟩ ∧ tt 119 = ⟨1, 2, 40, [.d (.v (.string ⟨#[]⟩)), .z], [(0, 9), (1, 56)], 0, .i64⟩ ∧ tt 120 = ⟨1, 2, 40, [.d (.v (.string ⟨#[]⟩)), .z], [(0, 9), (1, 56)], 0, .i64⟩ ∧ tt 121 = ⟨1, 2, 40, [.d (.v (.string ⟨#[]⟩)), .z], [(0, 9), (1, 56)], 0, .i64⟩ ∧ tt 126 = ⟨1, 3, 32, [.d (.v (.int .i64 0)), .d (.v (.int .i64 0)), .d (.v (.string ⟨#[]⟩))], [(0, 3), (1, 3), (2, 9)], 0, .i64⟩ ∧ tt 127 = ⟨1, 3, 32, [.d (.v (.int .i64 0)), .d (.v (.int .i64 0)), .d (.v (.string ⟨#[]⟩))], [(0, 3), (1, 3), (2, 9)], 0, .i64⟩ ∧ tt 128 = ⟨1, 4, 48, [.d (.v (.string ⟨#[]⟩)), .d (.v (.int .i64 0)), .d (.v (.int .i64 0)), .d (.v (.string ⟨#[]⟩))], [(0, 9), (1, 127)], 0, .i64⟩ ∧ tt 129 = ⟨1, 4, 48, [.d (.v (.string ⟨#[]⟩)), .d (.v (.int .i64 0)), .d (.v (.int .i64 0)), .d (.v (.string ⟨#[]⟩))], [(0, 9), (1, 127)], 0, .i64⟩ ∧ tt 131 = ⟨1, 7, 72, [.d (.v (.int .i64 0)), .d (.v (.int .i64 0)), .d (.v (.int .i64 0)), .d (.v (.string ⟨#[]⟩)), .d (.v (.int .i64 0)), .d (.v (.int .i64 0)), .d (.v (.string ⟨#[]⟩))], [(0, 3), (1, 3), (2, 3), (3, 9), (4, 127)], 0, .i64⟩ ∧ tt 132 = ⟨1, 7, 72, [.d (.v (.int .i64 0)), .d (.v (.int .i64 0)), .d (.v (.int .i64 0)), .d (.v (.string ⟨#[]⟩)), .d (.v (.int .i64 0)), .d (.v (.int .i64 0)), .d (.v (.string ⟨#[]⟩))], [(0, 3), (1, 3), (2, 3), (3, 9), (4, 127)], 0, .i64⟩ ∧ tt 133 = ⟨1, 3, 32, [.d (.v (.int .i64 0)), .d (.v (.int .i64 0)), .d (.v (.string ⟨#[]⟩))], [(0, 3), (1, 3), (2, 9)], 0, .i64⟩ ∧ tt 134 = ⟨1, 4, 48, [.d (.v (.string ⟨#[]⟩)), .d (.v (.int .i64 0)), .d (.v (.int .i64 0)), .d (.v (.string ⟨#[]⟩))], [(0, 9), (1, 133)], 0, .i64⟩ ∧ tt 135 = ⟨1, 4, 48, [.d (.v (.string ⟨#[]⟩)), .d (.v (.int .i64 0)), .d (.v (.int .i64 0)), .d (.v (.string ⟨#[]⟩))], [(0, 9), (1, 133)], 0, .i64⟩ ∧ tt 137 = ⟨1, 7, 72, [.d (.v (.int .i64 0)), .d (.v (.int .i64 0)), .d (.v (.int .i64 0)), .d (.v (.string ⟨#[]⟩)), .d (.v (.int .i64 0)), .d (.v (.int .i64 0)), .d (.v (.string ⟨#[]⟩))], [(0, 3), (1, 3), (2, 3), (3, 9), (4, 133)], 0, .i64⟩ ∧ tt 138 = ⟨1, 7, 72, [.d (.v (.int .i64 0)), .d (.v (.int .i64 0)), .d (.v (.int .i64 0)), .d (.v (.string ⟨#[]⟩)), .d (.v (.int .i64 0)), .d (.v (.int .i64 0)), .d (.v (.string ⟨#[]⟩))], [(0, 3), (1, 3), (2, 3), (3, 9), (4, 133)], 0, .i64⟩ ∧ tt 153 = ⟨3, 1, 1, [.d (.v (.int .u8 0))], [], 0, .u8⟩ ∧ tt 154 = ⟨3, 1, 1, [.d (.v (.int .u8 0))], [], 0, .u8⟩ :=
  ⟨rfl, rfl, rfl, rfl, rfl, rfl, rfl, rfl, rfl, rfl, rfl, rfl, rfl, rfl, rfl, rfl, rfl, rfl, rfl, rfl, rfl, rfl, rfl, rfl, rfl, rfl, rfl, rfl, rfl, rfl, rfl, rfl, rfl, rfl, rfl, rfl, rfl, rfl, rfl, rfl, rfl, rfl, rfl, rfl, rfl, rfl, rfl, rfl, rfl, rfl, rfl, rfl, rfl, rfl, rfl, rfl, rfl, rfl, rfl, rfl, rfl, rfl, rfl, rfl, rfl, rfl⟩
def eqk : Nat → List Nat := fun t => if t = 112 then [3, 1] else if t = 113 then [3, 1] else if t = 127 then [1, 1, 3] else if t = 129 then [3, 1, 1, 3] else if t = 132 then [1, 1, 1, 3, 1, 1, 3] else if t = 133 then [1, 1, 3] else if t = 135 then [3, 1, 1, 3] else if t = 138 then [1, 1, 1, 3, 1, 1, 3] else []
theorem kind1_inv {v : Value} (h : kindV v = 1) : ∃ x : Int, v = .int .i64 x := by
  cases v with
  | int k n => cases k <;> simp_all [kindV]
  | _ => simp_all [kindV]
theorem kind2_inv {v : Value} (h : kindV v = 2) : ∃ x : Bool, v = .bool x := by
  cases v with
  | int k n => cases k <;> simp_all [kindV]
  | _ => simp_all [kindV]
theorem kind3_inv {v : Value} (h : kindV v = 3) : ∃ x : ByteArray, v = .string x := by
  cases v with
  | int k n => cases k <;> simp_all [kindV]
  | _ => simp_all [kindV]
theorem kinds112 {xs : List Value} (h : xs.map kindV = [3, 1]) : ∃ (x0 : ByteArray) (x1 : Int), xs = [.string x0, .int .i64 x1] := by
  obtain ⟨v0, xs, rfl⟩ : ∃ v l, xs = v :: l := by cases xs with
    | nil => simp at h
    | cons v l => exact ⟨v, l, rfl⟩
  simp only [List.map_cons, List.cons.injEq] at h
  obtain ⟨h0, h⟩ := h
  obtain ⟨v1, xs, rfl⟩ : ∃ v l, xs = v :: l := by cases xs with
    | nil => simp at h
    | cons v l => exact ⟨v, l, rfl⟩
  simp only [List.map_cons, List.cons.injEq] at h
  obtain ⟨h1, h⟩ := h
  have : xs = [] := by simpa using h
  subst this
  obtain ⟨x0, rfl⟩ := kind3_inv h0
  obtain ⟨x1, rfl⟩ := kind1_inv h1
  exact ⟨x0, x1, rfl⟩
theorem kinds113 {xs : List Value} (h : xs.map kindV = [3, 1]) : ∃ (x0 : ByteArray) (x1 : Int), xs = [.string x0, .int .i64 x1] := by
  obtain ⟨v0, xs, rfl⟩ : ∃ v l, xs = v :: l := by cases xs with
    | nil => simp at h
    | cons v l => exact ⟨v, l, rfl⟩
  simp only [List.map_cons, List.cons.injEq] at h
  obtain ⟨h0, h⟩ := h
  obtain ⟨v1, xs, rfl⟩ : ∃ v l, xs = v :: l := by cases xs with
    | nil => simp at h
    | cons v l => exact ⟨v, l, rfl⟩
  simp only [List.map_cons, List.cons.injEq] at h
  obtain ⟨h1, h⟩ := h
  have : xs = [] := by simpa using h
  subst this
  obtain ⟨x0, rfl⟩ := kind3_inv h0
  obtain ⟨x1, rfl⟩ := kind1_inv h1
  exact ⟨x0, x1, rfl⟩
theorem kinds127 {xs : List Value} (h : xs.map kindV = [1, 1, 3]) : ∃ (x0 : Int) (x1 : Int) (x2 : ByteArray), xs = [.int .i64 x0, .int .i64 x1, .string x2] := by
  obtain ⟨v0, xs, rfl⟩ : ∃ v l, xs = v :: l := by cases xs with
    | nil => simp at h
    | cons v l => exact ⟨v, l, rfl⟩
  simp only [List.map_cons, List.cons.injEq] at h
  obtain ⟨h0, h⟩ := h
  obtain ⟨v1, xs, rfl⟩ : ∃ v l, xs = v :: l := by cases xs with
    | nil => simp at h
    | cons v l => exact ⟨v, l, rfl⟩
  simp only [List.map_cons, List.cons.injEq] at h
  obtain ⟨h1, h⟩ := h
  obtain ⟨v2, xs, rfl⟩ : ∃ v l, xs = v :: l := by cases xs with
    | nil => simp at h
    | cons v l => exact ⟨v, l, rfl⟩
  simp only [List.map_cons, List.cons.injEq] at h
  obtain ⟨h2, h⟩ := h
  have : xs = [] := by simpa using h
  subst this
  obtain ⟨x0, rfl⟩ := kind1_inv h0
  obtain ⟨x1, rfl⟩ := kind1_inv h1
  obtain ⟨x2, rfl⟩ := kind3_inv h2
  exact ⟨x0, x1, x2, rfl⟩
theorem kinds129 {xs : List Value} (h : xs.map kindV = [3, 1, 1, 3]) : ∃ (x0 : ByteArray) (x1 : Int) (x2 : Int) (x3 : ByteArray), xs = [.string x0, .int .i64 x1, .int .i64 x2, .string x3] := by
  obtain ⟨v0, xs, rfl⟩ : ∃ v l, xs = v :: l := by cases xs with
    | nil => simp at h
    | cons v l => exact ⟨v, l, rfl⟩
  simp only [List.map_cons, List.cons.injEq] at h
  obtain ⟨h0, h⟩ := h
  obtain ⟨v1, xs, rfl⟩ : ∃ v l, xs = v :: l := by cases xs with
    | nil => simp at h
    | cons v l => exact ⟨v, l, rfl⟩
  simp only [List.map_cons, List.cons.injEq] at h
  obtain ⟨h1, h⟩ := h
  obtain ⟨v2, xs, rfl⟩ : ∃ v l, xs = v :: l := by cases xs with
    | nil => simp at h
    | cons v l => exact ⟨v, l, rfl⟩
  simp only [List.map_cons, List.cons.injEq] at h
  obtain ⟨h2, h⟩ := h
  obtain ⟨v3, xs, rfl⟩ : ∃ v l, xs = v :: l := by cases xs with
    | nil => simp at h
    | cons v l => exact ⟨v, l, rfl⟩
  simp only [List.map_cons, List.cons.injEq] at h
  obtain ⟨h3, h⟩ := h
  have : xs = [] := by simpa using h
  subst this
  obtain ⟨x0, rfl⟩ := kind3_inv h0
  obtain ⟨x1, rfl⟩ := kind1_inv h1
  obtain ⟨x2, rfl⟩ := kind1_inv h2
  obtain ⟨x3, rfl⟩ := kind3_inv h3
  exact ⟨x0, x1, x2, x3, rfl⟩
theorem kinds132 {xs : List Value} (h : xs.map kindV = [1, 1, 1, 3, 1, 1, 3]) : ∃ (x0 : Int) (x1 : Int) (x2 : Int) (x3 : ByteArray) (x4 : Int) (x5 : Int) (x6 : ByteArray), xs = [.int .i64 x0, .int .i64 x1, .int .i64 x2, .string x3, .int .i64 x4, .int .i64 x5, .string x6] := by
  obtain ⟨v0, xs, rfl⟩ : ∃ v l, xs = v :: l := by cases xs with
    | nil => simp at h
    | cons v l => exact ⟨v, l, rfl⟩
  simp only [List.map_cons, List.cons.injEq] at h
  obtain ⟨h0, h⟩ := h
  obtain ⟨v1, xs, rfl⟩ : ∃ v l, xs = v :: l := by cases xs with
    | nil => simp at h
    | cons v l => exact ⟨v, l, rfl⟩
  simp only [List.map_cons, List.cons.injEq] at h
  obtain ⟨h1, h⟩ := h
  obtain ⟨v2, xs, rfl⟩ : ∃ v l, xs = v :: l := by cases xs with
    | nil => simp at h
    | cons v l => exact ⟨v, l, rfl⟩
  simp only [List.map_cons, List.cons.injEq] at h
  obtain ⟨h2, h⟩ := h
  obtain ⟨v3, xs, rfl⟩ : ∃ v l, xs = v :: l := by cases xs with
    | nil => simp at h
    | cons v l => exact ⟨v, l, rfl⟩
  simp only [List.map_cons, List.cons.injEq] at h
  obtain ⟨h3, h⟩ := h
  obtain ⟨v4, xs, rfl⟩ : ∃ v l, xs = v :: l := by cases xs with
    | nil => simp at h
    | cons v l => exact ⟨v, l, rfl⟩
  simp only [List.map_cons, List.cons.injEq] at h
  obtain ⟨h4, h⟩ := h
  obtain ⟨v5, xs, rfl⟩ : ∃ v l, xs = v :: l := by cases xs with
    | nil => simp at h
    | cons v l => exact ⟨v, l, rfl⟩
  simp only [List.map_cons, List.cons.injEq] at h
  obtain ⟨h5, h⟩ := h
  obtain ⟨v6, xs, rfl⟩ : ∃ v l, xs = v :: l := by cases xs with
    | nil => simp at h
    | cons v l => exact ⟨v, l, rfl⟩
  simp only [List.map_cons, List.cons.injEq] at h
  obtain ⟨h6, h⟩ := h
  have : xs = [] := by simpa using h
  subst this
  obtain ⟨x0, rfl⟩ := kind1_inv h0
  obtain ⟨x1, rfl⟩ := kind1_inv h1
  obtain ⟨x2, rfl⟩ := kind1_inv h2
  obtain ⟨x3, rfl⟩ := kind3_inv h3
  obtain ⟨x4, rfl⟩ := kind1_inv h4
  obtain ⟨x5, rfl⟩ := kind1_inv h5
  obtain ⟨x6, rfl⟩ := kind3_inv h6
  exact ⟨x0, x1, x2, x3, x4, x5, x6, rfl⟩
theorem kinds133 {xs : List Value} (h : xs.map kindV = [1, 1, 3]) : ∃ (x0 : Int) (x1 : Int) (x2 : ByteArray), xs = [.int .i64 x0, .int .i64 x1, .string x2] := by
  obtain ⟨v0, xs, rfl⟩ : ∃ v l, xs = v :: l := by cases xs with
    | nil => simp at h
    | cons v l => exact ⟨v, l, rfl⟩
  simp only [List.map_cons, List.cons.injEq] at h
  obtain ⟨h0, h⟩ := h
  obtain ⟨v1, xs, rfl⟩ : ∃ v l, xs = v :: l := by cases xs with
    | nil => simp at h
    | cons v l => exact ⟨v, l, rfl⟩
  simp only [List.map_cons, List.cons.injEq] at h
  obtain ⟨h1, h⟩ := h
  obtain ⟨v2, xs, rfl⟩ : ∃ v l, xs = v :: l := by cases xs with
    | nil => simp at h
    | cons v l => exact ⟨v, l, rfl⟩
  simp only [List.map_cons, List.cons.injEq] at h
  obtain ⟨h2, h⟩ := h
  have : xs = [] := by simpa using h
  subst this
  obtain ⟨x0, rfl⟩ := kind1_inv h0
  obtain ⟨x1, rfl⟩ := kind1_inv h1
  obtain ⟨x2, rfl⟩ := kind3_inv h2
  exact ⟨x0, x1, x2, rfl⟩
theorem kinds135 {xs : List Value} (h : xs.map kindV = [3, 1, 1, 3]) : ∃ (x0 : ByteArray) (x1 : Int) (x2 : Int) (x3 : ByteArray), xs = [.string x0, .int .i64 x1, .int .i64 x2, .string x3] := by
  obtain ⟨v0, xs, rfl⟩ : ∃ v l, xs = v :: l := by cases xs with
    | nil => simp at h
    | cons v l => exact ⟨v, l, rfl⟩
  simp only [List.map_cons, List.cons.injEq] at h
  obtain ⟨h0, h⟩ := h
  obtain ⟨v1, xs, rfl⟩ : ∃ v l, xs = v :: l := by cases xs with
    | nil => simp at h
    | cons v l => exact ⟨v, l, rfl⟩
  simp only [List.map_cons, List.cons.injEq] at h
  obtain ⟨h1, h⟩ := h
  obtain ⟨v2, xs, rfl⟩ : ∃ v l, xs = v :: l := by cases xs with
    | nil => simp at h
    | cons v l => exact ⟨v, l, rfl⟩
  simp only [List.map_cons, List.cons.injEq] at h
  obtain ⟨h2, h⟩ := h
  obtain ⟨v3, xs, rfl⟩ : ∃ v l, xs = v :: l := by cases xs with
    | nil => simp at h
    | cons v l => exact ⟨v, l, rfl⟩
  simp only [List.map_cons, List.cons.injEq] at h
  obtain ⟨h3, h⟩ := h
  have : xs = [] := by simpa using h
  subst this
  obtain ⟨x0, rfl⟩ := kind3_inv h0
  obtain ⟨x1, rfl⟩ := kind1_inv h1
  obtain ⟨x2, rfl⟩ := kind1_inv h2
  obtain ⟨x3, rfl⟩ := kind3_inv h3
  exact ⟨x0, x1, x2, x3, rfl⟩
theorem kinds138 {xs : List Value} (h : xs.map kindV = [1, 1, 1, 3, 1, 1, 3]) : ∃ (x0 : Int) (x1 : Int) (x2 : Int) (x3 : ByteArray) (x4 : Int) (x5 : Int) (x6 : ByteArray), xs = [.int .i64 x0, .int .i64 x1, .int .i64 x2, .string x3, .int .i64 x4, .int .i64 x5, .string x6] := by
  obtain ⟨v0, xs, rfl⟩ : ∃ v l, xs = v :: l := by cases xs with
    | nil => simp at h
    | cons v l => exact ⟨v, l, rfl⟩
  simp only [List.map_cons, List.cons.injEq] at h
  obtain ⟨h0, h⟩ := h
  obtain ⟨v1, xs, rfl⟩ : ∃ v l, xs = v :: l := by cases xs with
    | nil => simp at h
    | cons v l => exact ⟨v, l, rfl⟩
  simp only [List.map_cons, List.cons.injEq] at h
  obtain ⟨h1, h⟩ := h
  obtain ⟨v2, xs, rfl⟩ : ∃ v l, xs = v :: l := by cases xs with
    | nil => simp at h
    | cons v l => exact ⟨v, l, rfl⟩
  simp only [List.map_cons, List.cons.injEq] at h
  obtain ⟨h2, h⟩ := h
  obtain ⟨v3, xs, rfl⟩ : ∃ v l, xs = v :: l := by cases xs with
    | nil => simp at h
    | cons v l => exact ⟨v, l, rfl⟩
  simp only [List.map_cons, List.cons.injEq] at h
  obtain ⟨h3, h⟩ := h
  obtain ⟨v4, xs, rfl⟩ : ∃ v l, xs = v :: l := by cases xs with
    | nil => simp at h
    | cons v l => exact ⟨v, l, rfl⟩
  simp only [List.map_cons, List.cons.injEq] at h
  obtain ⟨h4, h⟩ := h
  obtain ⟨v5, xs, rfl⟩ : ∃ v l, xs = v :: l := by cases xs with
    | nil => simp at h
    | cons v l => exact ⟨v, l, rfl⟩
  simp only [List.map_cons, List.cons.injEq] at h
  obtain ⟨h5, h⟩ := h
  obtain ⟨v6, xs, rfl⟩ : ∃ v l, xs = v :: l := by cases xs with
    | nil => simp at h
    | cons v l => exact ⟨v, l, rfl⟩
  simp only [List.map_cons, List.cons.injEq] at h
  obtain ⟨h6, h⟩ := h
  have : xs = [] := by simpa using h
  subst this
  obtain ⟨x0, rfl⟩ := kind1_inv h0
  obtain ⟨x1, rfl⟩ := kind1_inv h1
  obtain ⟨x2, rfl⟩ := kind1_inv h2
  obtain ⟨x3, rfl⟩ := kind3_inv h3
  obtain ⟨x4, rfl⟩ := kind1_inv h4
  obtain ⟨x5, rfl⟩ := kind1_inv h5
  obtain ⟨x6, rfl⟩ := kind3_inv h6
  exact ⟨x0, x1, x2, x3, x4, x5, x6, rfl⟩
set_option maxHeartbeats 1000000 in
theorem eqT112 : EqT Try.prog 112 [3, 1] := by
  refine ⟨by decide, fun w xs ys hx hy => ?_, fun w xs ys hx hy => ?_, fun op x y xs ys w => run_eqGuard_agg w op 112 x y xs ys Try.eqGuardType112⟩
  · obtain ⟨x0, x1, hx⟩ := kinds112 hx
    obtain ⟨y0, y1, hy⟩ := kinds112 hy
    subst hx; subst hy
    simp [go_sem, eqVs, eqV, beq_int, beq_bytes]
    (repeat' split) <;> simp_all
  · obtain ⟨x0, x1, hx⟩ := kinds112 hx
    obtain ⟨y0, y1, hy⟩ := kinds112 hy
    subst hx; subst hy
    simp [go_sem, eqVs, eqV, beq_int, beq_bytes]
    (repeat' split) <;> simp_all
set_option maxHeartbeats 1000000 in
theorem eqT113 : EqT Try.prog 113 [3, 1] := by
  refine ⟨by decide, fun w xs ys hx hy => ?_, fun w xs ys hx hy => ?_, fun op x y xs ys w => run_eqGuard_agg w op 113 x y xs ys Try.eqGuardType113⟩
  · obtain ⟨x0, x1, hx⟩ := kinds113 hx
    obtain ⟨y0, y1, hy⟩ := kinds113 hy
    subst hx; subst hy
    simp [go_sem, eqVs, eqV, beq_int, beq_bytes]
    (repeat' split) <;> simp_all
  · obtain ⟨x0, x1, hx⟩ := kinds113 hx
    obtain ⟨y0, y1, hy⟩ := kinds113 hy
    subst hx; subst hy
    simp [go_sem, eqVs, eqV, beq_int, beq_bytes]
    (repeat' split) <;> simp_all
set_option maxHeartbeats 1000000 in
theorem eqT127 : EqT Try.prog 127 [1, 1, 3] := by
  refine ⟨by decide, fun w xs ys hx hy => ?_, fun w xs ys hx hy => ?_, fun op x y xs ys w => run_eqGuard_agg w op 127 x y xs ys Try.eqGuardType127⟩
  · obtain ⟨x0, x1, x2, hx⟩ := kinds127 hx
    obtain ⟨y0, y1, y2, hy⟩ := kinds127 hy
    subst hx; subst hy
    simp [go_sem, eqVs, eqV, beq_int, beq_bytes]
    (repeat' split) <;> simp_all
  · obtain ⟨x0, x1, x2, hx⟩ := kinds127 hx
    obtain ⟨y0, y1, y2, hy⟩ := kinds127 hy
    subst hx; subst hy
    simp [go_sem, eqVs, eqV, beq_int, beq_bytes]
    (repeat' split) <;> simp_all
set_option maxHeartbeats 1000000 in
theorem eqT129 : EqT Try.prog 129 [3, 1, 1, 3] := by
  refine ⟨by decide, fun w xs ys hx hy => ?_, fun w xs ys hx hy => ?_, fun op x y xs ys w => run_eqGuard_agg w op 129 x y xs ys Try.eqGuardType129⟩
  · obtain ⟨x0, x1, x2, x3, hx⟩ := kinds129 hx
    obtain ⟨y0, y1, y2, y3, hy⟩ := kinds129 hy
    subst hx; subst hy
    simp [go_sem, eqVs, eqV, beq_int, beq_bytes]
    (repeat' split) <;> simp_all
  · obtain ⟨x0, x1, x2, x3, hx⟩ := kinds129 hx
    obtain ⟨y0, y1, y2, y3, hy⟩ := kinds129 hy
    subst hx; subst hy
    simp [go_sem, eqVs, eqV, beq_int, beq_bytes]
    (repeat' split) <;> simp_all
set_option maxHeartbeats 1000000 in
theorem eqT132 : EqT Try.prog 132 [1, 1, 1, 3, 1, 1, 3] := by
  refine ⟨by decide, fun w xs ys hx hy => ?_, fun w xs ys hx hy => ?_, fun op x y xs ys w => run_eqGuard_agg w op 132 x y xs ys Try.eqGuardType132⟩
  · obtain ⟨x0, x1, x2, x3, x4, x5, x6, hx⟩ := kinds132 hx
    obtain ⟨y0, y1, y2, y3, y4, y5, y6, hy⟩ := kinds132 hy
    subst hx; subst hy
    simp [go_sem, eqVs, eqV, beq_int, beq_bytes]
    (repeat' split) <;> simp_all
  · obtain ⟨x0, x1, x2, x3, x4, x5, x6, hx⟩ := kinds132 hx
    obtain ⟨y0, y1, y2, y3, y4, y5, y6, hy⟩ := kinds132 hy
    subst hx; subst hy
    simp [go_sem, eqVs, eqV, beq_int, beq_bytes]
    (repeat' split) <;> simp_all
set_option maxHeartbeats 1000000 in
theorem eqT133 : EqT Try.prog 133 [1, 1, 3] := by
  refine ⟨by decide, fun w xs ys hx hy => ?_, fun w xs ys hx hy => ?_, fun op x y xs ys w => run_eqGuard_agg w op 133 x y xs ys Try.eqGuardType133⟩
  · obtain ⟨x0, x1, x2, hx⟩ := kinds133 hx
    obtain ⟨y0, y1, y2, hy⟩ := kinds133 hy
    subst hx; subst hy
    simp [go_sem, eqVs, eqV, beq_int, beq_bytes]
    (repeat' split) <;> simp_all
  · obtain ⟨x0, x1, x2, hx⟩ := kinds133 hx
    obtain ⟨y0, y1, y2, hy⟩ := kinds133 hy
    subst hx; subst hy
    simp [go_sem, eqVs, eqV, beq_int, beq_bytes]
    (repeat' split) <;> simp_all
set_option maxHeartbeats 1000000 in
theorem eqT135 : EqT Try.prog 135 [3, 1, 1, 3] := by
  refine ⟨by decide, fun w xs ys hx hy => ?_, fun w xs ys hx hy => ?_, fun op x y xs ys w => run_eqGuard_agg w op 135 x y xs ys Try.eqGuardType135⟩
  · obtain ⟨x0, x1, x2, x3, hx⟩ := kinds135 hx
    obtain ⟨y0, y1, y2, y3, hy⟩ := kinds135 hy
    subst hx; subst hy
    simp [go_sem, eqVs, eqV, beq_int, beq_bytes]
    (repeat' split) <;> simp_all
  · obtain ⟨x0, x1, x2, x3, hx⟩ := kinds135 hx
    obtain ⟨y0, y1, y2, y3, hy⟩ := kinds135 hy
    subst hx; subst hy
    simp [go_sem, eqVs, eqV, beq_int, beq_bytes]
    (repeat' split) <;> simp_all
set_option maxHeartbeats 1000000 in
theorem eqT138 : EqT Try.prog 138 [1, 1, 1, 3, 1, 1, 3] := by
  refine ⟨by decide, fun w xs ys hx hy => ?_, fun w xs ys hx hy => ?_, fun op x y xs ys w => run_eqGuard_agg w op 138 x y xs ys Try.eqGuardType138⟩
  · obtain ⟨x0, x1, x2, x3, x4, x5, x6, hx⟩ := kinds138 hx
    obtain ⟨y0, y1, y2, y3, y4, y5, y6, hy⟩ := kinds138 hy
    subst hx; subst hy
    simp [go_sem, eqVs, eqV, beq_int, beq_bytes]
    (repeat' split) <;> simp_all
  · obtain ⟨x0, x1, x2, x3, x4, x5, x6, hx⟩ := kinds138 hx
    obtain ⟨y0, y1, y2, y3, y4, y5, y6, hy⟩ := kinds138 hy
    subst hx; subst hy
    simp [go_sem, eqVs, eqV, beq_int, beq_bytes]
    (repeat' split) <;> simp_all
theorem eqOK : ∀ t, eqk t ≠ [] → EqT Try.prog t (eqk t) := by
  intro t h
  unfold eqk at h ⊢
  by_cases e112 : t = 112
  · subst e112; exact eqT112
  simp only [e112, if_false] at h ⊢
  by_cases e113 : t = 113
  · subst e113; exact eqT113
  simp only [e113, if_false] at h ⊢
  by_cases e127 : t = 127
  · subst e127; exact eqT127
  simp only [e127, if_false] at h ⊢
  by_cases e129 : t = 129
  · subst e129; exact eqT129
  simp only [e129, if_false] at h ⊢
  by_cases e132 : t = 132
  · subst e132; exact eqT132
  simp only [e132, if_false] at h ⊢
  by_cases e133 : t = 133
  · subst e133; exact eqT133
  simp only [e133, if_false] at h ⊢
  by_cases e135 : t = 135
  · subst e135; exact eqT135
  simp only [e135, if_false] at h ⊢
  by_cases e138 : t = 138
  · subst e138; exact eqT138
  simp only [e138, if_false] at h ⊢
  exact (h rfl).elim
noncomputable def EV (C : Ctx) : Env := ⟨Try.prog, tt, C, eqk⟩
theorem EV_T (C : Ctx) : (EV C).T = tt := rfl
theorem EV_q (C : Ctx) : (EV C).eqk = eqk := rfl
attribute [go_sem] tts EV_T EV_q eqk
theorem reg {C : Ctx} {id : Nat} {ops : List Oper} {F : Ex → St → Prop} {st : St} (h : vcRun (EV C) ops ops st (F .normal) ⟨⟩) : WP Try.prog C (.region id ops.toArray false) F st := WP_region (E := EV C) ttOK eqOK h.out
theorem cnd {C : Ctx} {c : Operand} {x y : Code} {F : Ex → St → Prop} {st : St} {b : Bool} (hc : ev st c = .o (.d (.v (.bool b)))) (h1 : b = true → WP Try.prog C x F st) (h2 : b = false → WP Try.prog C y F st) : WP Try.prog C (.cond c x y) F st := WP_cond (E := EV C) hc h1 h2
theorem cal {C : Ctx} {f : Nat} {args args' : List SV} {res : SV} {st : St} {K : St → SV → Prop} (h : FnC Try.prog f args' res) (he : args.map (pureS (frzH st.h (idsS args))) = args') (hfree : args'.all freeS = true) (k : K ⟨st.t, frzH st.h (idsS args) ++ adH res.all⟩ (adS (frzH st.h (idsS args)).length res)) : CallT (EV C) f args st K ⟨⟩ := ⟨CallS.frz (E := EV C) h he hfree k⟩
theorem cndt {C : Ctx} {c : Operand} {x y : Code} {F : Ex → St → Prop} {st : St} (hc : ev st c = .o (.d (.v (.bool true)))) (h : WP Try.prog C x F st) : WP Try.prog C (.cond c x y) F st := cnd_t (E := EV C) hc h
theorem cndf {C : Ctx} {c : Operand} {x y : Code} {F : Ex → St → Prop} {st : St} (hc : ev st c = .o (.d (.v (.bool false)))) (h : WP Try.prog C y F st) : WP Try.prog C (.cond c x y) F st := cnd_f (E := EV C) hc h
theorem fol : Try.prog.follows .mixedOrders = true := by kernel_rfl
theorem regd {C : Ctx} {id : Nat} {ops : List Oper} {F : Ex → St → Prop} {st : St} (hB : Region.lexB .any ops.toArray = true) (h : vcDRun (EV C) ops ops st (F .normal) ⟨⟩) : WP Try.prog C (.region id ops.toArray true) F st := WP_draw (E := EV C) ttOK eqOK fol hB h.out
theorem cald {C : Ctx} {f : Nat} {args args' : List SV} {res : SV} {h : List HB} {k : SV → Prop} (hf : FnC Try.prog f args' res) (h1 : args.map (pureS h) = args') (h2 : args'.all freeS = true) (h3 : res.all.all isD = true) (hk : k res) : CallD (EV C) f args h k ⟨⟩ := CallD.of_fn (E := EV C) hf h1 h2 h3 hk
theorem ent {f : Nat} {fn : Func} {c : Code} {rs : List ResultVar} {args : List SV} {res : SV} (hf : Try.prog.funcs[f]? = some fn) (hb : fn.body = some c) (hcall : ∀ x w, (callFunc f x).run Try.prog w = .ok (.enter f x) w) (hres : fn.results = rs.toArray)
    (h : ∀ C : Ctx, WP Try.prog C c (kont Try.prog C [] (retK (EV C) rs res)) (st0 args fn.ntmps)) : FnC Try.prog f args res := FnC.of_wp (eqk := eqk) ttOK hf hb hcall hres fun C _ => h C
end Go.Proofs.Ytefpompaidekeaa
