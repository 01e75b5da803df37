/-
  The table of this translation's types, by program (gentypes.py), and that it is what the program says.
-/
import Derived.Test.YteganoldfldlhaaProg
import Derived.Test.YteganoldfldlhaaL3
import Derived.KernelRfl
set_option linter.all false
namespace Go.Proofs.Yteganoldfldlhaa
open Go Go.Sx Go.RowKit

noncomputable def ttl : List Ty := [.bad,
  .bad,
  ⟨3, 1, 8, [.d (.v (.int .i64 0))], [], 0, .i64⟩,
  ⟨3, 1, 8, [.d (.v (.int .i64 0))], [], 0, .i64⟩,
  ⟨4, 1, 1, [.d (.v (.bool false))], [], 0, .i64⟩,
  ⟨3, 1, 1, [.d (.v (.int .u8 0))], [], 0, .u8⟩,
  ⟨3, 1, 1, [.d (.v (.int .u8 0))], [], 0, .u8⟩,
  ⟨1, 4, 24, [.d (.v (.int .i64 0)), .d (.v (.int .i64 0)), .d (.v (.bool false)), .d (.v (.int .u8 0))], [(0, 2), (1, 3), (2, 4), (3, 6)], 0, .i64⟩,
  ⟨1, 4, 24, [.d (.v (.int .i64 0)), .d (.v (.int .i64 0)), .d (.v (.bool false)), .d (.v (.int .u8 0))], [(0, 2), (1, 3), (2, 4), (3, 6)], 0, .i64⟩,
  ⟨5, 1, 16, [.d (.v (.string ⟨#[]⟩))], [], 0, .i64⟩,
  ⟨5, 1, 16, [.d (.v (.string ⟨#[]⟩))], [], 0, .i64⟩,
  ⟨5, 1, 16, [.d (.v (.string ⟨#[]⟩))], [], 0, .i64⟩,
  .bad,
  .bad,
  .bad,
  .bad,
  .bad,
  .bad,
  .bad,
  .bad,
  .bad,
  .bad,
  ⟨2, 1, 24, [.z], [], 115, .i64⟩,
  .bad,
  ⟨2, 1, 24, [.z], [], 3, .i64⟩,
  .bad,
  ⟨2, 1, 24, [.z], [], 117, .i64⟩,
  .bad,
  .bad,
  .bad,
  .bad,
  .bad,
  .bad,
  ⟨1, 3, 32, [.d (.v (.int .i64 0)), .d (.v (.int .i64 0)), .d (.v (.string ⟨#[]⟩))], [(0, 3), (1, 3), (2, 9)], 0, .i64⟩,
  ⟨1, 3, 32, [.d (.v (.int .i64 0)), .d (.v (.int .i64 0)), .d (.v (.string ⟨#[]⟩))], [(0, 3), (1, 3), (2, 9)], 0, .i64⟩,
  .bad,
  .bad,
  ⟨1, 3, 32, [.d (.v (.int .i64 0)), .d (.v (.int .i64 0)), .d (.v (.string ⟨#[]⟩))], [(0, 3), (1, 3), (2, 9)], 0, .i64⟩,
  .bad,
  .bad,
  ⟨2, 1, 24, [.z], [], 123, .i64⟩,
  ⟨2, 1, 24, [.z], [], 9, .i64⟩,
  .bad,
  .bad,
  .bad,
  ⟨2, 1, 24, [.z], [], 126, .i64⟩,
  .bad,
  .bad,
  .bad,
  .bad,
  .bad,
  .bad,
  ⟨2, 1, 24, [.z], [], 194, .i64⟩,
  ⟨1, 2, 32, [.d (.v (.bool false)), .z], [(0, 4), (1, 52)], 0, .i64⟩,
  ⟨1, 2, 32, [.d (.v (.bool false)), .z], [(0, 4), (1, 52)], 0, .i64⟩,
  .bad,
  ⟨2, 1, 24, [.z], [], 134, .i64⟩,
  ⟨1, 2, 32, [.d (.v (.bool false)), .z], [(0, 4), (1, 56)], 0, .i64⟩,
  ⟨1, 2, 32, [.d (.v (.bool false)), .z], [(0, 4), (1, 56)], 0, .i64⟩,
  .bad,
  .bad,
  .bad,
  .bad,
  .bad,
  ⟨1, 5, 56, [.d (.v (.int .i64 0)), .d (.v (.int .i64 0)), .d (.v (.bool false)), .d (.v (.int .i64 0)), .z], [(0, 3), (1, 3), (2, 4), (3, 3), (4, 52)], 0, .i64⟩,
  ⟨1, 5, 56, [.d (.v (.int .i64 0)), .d (.v (.int .i64 0)), .d (.v (.bool false)), .d (.v (.int .i64 0)), .z], [(0, 3), (1, 3), (2, 4), (3, 3), (4, 52)], 0, .i64⟩,
  .bad,
  ⟨1, 5, 56, [.d (.v (.int .i64 0)), .d (.v (.int .i64 0)), .d (.v (.bool false)), .d (.v (.int .i64 0)), .z], [(0, 3), (1, 3), (2, 4), (3, 3), (4, 56)], 0, .i64⟩,
  ⟨1, 5, 56, [.d (.v (.int .i64 0)), .d (.v (.int .i64 0)), .d (.v (.bool false)), .d (.v (.int .i64 0)), .z], [(0, 3), (1, 3), (2, 4), (3, 3), (4, 56)], 0, .i64⟩,
  .bad,
  .bad,
  .bad,
  .bad,
  .bad,
  ⟨2, 1, 24, [.z], [], 201, .i64⟩,
  ⟨2, 1, 24, [.z], [], 65, .i64⟩,
  ⟨1, 3, 56, [.z, .z, .d (.v (.int .i64 0))], [(0, 74), (1, 75), (2, 3)], 0, .i64⟩,
  ⟨1, 3, 56, [.z, .z, .d (.v (.int .i64 0))], [(0, 74), (1, 75), (2, 3)], 0, .i64⟩,
  .bad,
  .bad,
  ⟨2, 1, 24, [.z], [], 202, .i64⟩,
  ⟨2, 1, 24, [.z], [], 68, .i64⟩,
  ⟨1, 3, 56, [.z, .z, .d (.v (.int .i64 0))], [(0, 80), (1, 81), (2, 3)], 0, .i64⟩,
  ⟨1, 3, 56, [.z, .z, .d (.v (.int .i64 0))], [(0, 80), (1, 81), (2, 3)], 0, .i64⟩,
  .bad,
  .bad,
  .bad,
  .bad,
  .bad,
  ⟨2, 1, 24, [.z], [], 162, .i64⟩,
  ⟨2, 1, 24, [.z], [], 165, .i64⟩,
  .bad,
  .bad,
  ⟨2, 1, 24, [.z], [], 166, .i64⟩,
  .bad,
  .bad,
  ⟨2, 1, 24, [.z], [], 167, .i64⟩,
  .bad,
  .bad,
  .bad,
  .bad,
  .bad,
  .bad,
  ⟨2, 1, 24, [.z], [], 176, .i64⟩,
  .bad,
  .bad,
  ⟨2, 1, 24, [.z], [], 180, .i64⟩,
  .bad,
  .bad,
  .bad,
  .bad,
  .bad,
  .bad,
  .bad,
  ⟨1, 4, 56, [.d (.v (.int .i64 0)), .d (.v (.int .i64 0)), .d (.v (.string ⟨#[]⟩)), .z], [(0, 34), (3, 24)], 0, .i64⟩,
  ⟨1, 4, 56, [.d (.v (.int .i64 0)), .d (.v (.int .i64 0)), .d (.v (.string ⟨#[]⟩)), .z], [(0, 34), (3, 24)], 0, .i64⟩,
  ⟨1, 4, 56, [.d (.v (.int .i64 0)), .d (.v (.int .i64 0)), .d (.v (.string ⟨#[]⟩)), .z], [(0, 37), (3, 24)], 0, .i64⟩,
  ⟨1, 4, 56, [.d (.v (.int .i64 0)), .d (.v (.int .i64 0)), .d (.v (.string ⟨#[]⟩)), .z], [(0, 37), (3, 24)], 0, .i64⟩,
  .bad,
  .bad,
  .bad,
  .bad,
  ⟨1, 2, 40, [.d (.v (.string ⟨#[]⟩)), .z], [(0, 9), (1, 103)], 0, .i64⟩,
  ⟨1, 2, 40, [.d (.v (.string ⟨#[]⟩)), .z], [(0, 9), (1, 103)], 0, .i64⟩,
  .bad,
  ⟨1, 2, 40, [.d (.v (.string ⟨#[]⟩)), .z], [(0, 9), (1, 106)], 0, .i64⟩,
  ⟨1, 2, 40, [.d (.v (.string ⟨#[]⟩)), .z], [(0, 9), (1, 106)], 0, .i64⟩,
  .bad,
  .bad,
  .bad,
  .bad,
  .bad,
  .bad,
  ⟨1, 4, 48, [.d (.v (.string ⟨#[]⟩)), .d (.v (.int .i64 0)), .d (.v (.int .i64 0)), .d (.v (.string ⟨#[]⟩))], [(0, 9), (1, 37)], 0, .i64⟩,
  ⟨1, 4, 48, [.d (.v (.string ⟨#[]⟩)), .d (.v (.int .i64 0)), .d (.v (.int .i64 0)), .d (.v (.string ⟨#[]⟩))], [(0, 9), (1, 37)], 0, .i64⟩,
  .bad,
  .bad,
  .bad,
  .bad,
  .bad,
  .bad,
  .bad,
  .bad,
  .bad,
  .bad,
  .bad,
  .bad,
  .bad,
  .bad,
  .bad,
  .bad,
  .bad,
  .bad,
  .bad,
  .bad,
  .bad,
  .bad,
  .bad,
  .bad,
  .bad,
  .bad,
  ⟨1, 2, 40, [.d (.v (.string ⟨#[]⟩)), .z], [(0, 9), (1, 24)], 0, .i64⟩,
  ⟨1, 2, 40, [.d (.v (.string ⟨#[]⟩)), .z], [(0, 9), (1, 24)], 0, .i64⟩,
  .bad,
  ⟨1, 3, 64, [.d (.v (.string ⟨#[]⟩)), .z, .z], [(0, 9), (1, 24), (2, 24)], 0, .i64⟩,
  ⟨1, 3, 64, [.d (.v (.string ⟨#[]⟩)), .z, .z], [(0, 9), (1, 24), (2, 24)], 0, .i64⟩,
  ⟨1, 2, 40, [.d (.v (.string ⟨#[]⟩)), .z], [(0, 9), (1, 24)], 0, .i64⟩,
  ⟨1, 3, 64, [.d (.v (.string ⟨#[]⟩)), .z, .z], [(0, 9), (1, 24), (2, 24)], 0, .i64⟩,
  .bad,
  .bad,
  .bad,
  .bad,
  .bad,
  .bad,
  .bad,
  ⟨1, 7, 72, [.d (.v (.int .i64 0)), .d (.v (.int .i64 0)), .d (.v (.int .i64 0)), .d (.v (.string ⟨#[]⟩)), .d (.v (.int .i64 0)), .d (.v (.int .i64 0)), .d (.v (.string ⟨#[]⟩))], [(0, 3), (1, 3), (2, 3), (3, 9), (4, 34)], 0, .i64⟩,
  ⟨1, 7, 72, [.d (.v (.int .i64 0)), .d (.v (.int .i64 0)), .d (.v (.int .i64 0)), .d (.v (.string ⟨#[]⟩)), .d (.v (.int .i64 0)), .d (.v (.int .i64 0)), .d (.v (.string ⟨#[]⟩))], [(0, 3), (1, 3), (2, 3), (3, 9), (4, 34)], 0, .i64⟩,
  .bad,
  .bad,
  ⟨1, 7, 72, [.d (.v (.int .i64 0)), .d (.v (.int .i64 0)), .d (.v (.int .i64 0)), .d (.v (.string ⟨#[]⟩)), .d (.v (.int .i64 0)), .d (.v (.int .i64 0)), .d (.v (.string ⟨#[]⟩))], [(0, 3), (1, 3), (2, 3), (3, 9), (4, 37)], 0, .i64⟩,
  ⟨1, 7, 72, [.d (.v (.int .i64 0)), .d (.v (.int .i64 0)), .d (.v (.int .i64 0)), .d (.v (.string ⟨#[]⟩)), .d (.v (.int .i64 0)), .d (.v (.int .i64 0)), .d (.v (.string ⟨#[]⟩))], [(0, 3), (1, 3), (2, 3), (3, 9), (4, 37)], 0, .i64⟩,
  .bad,
  .bad,
  .bad,
  .bad,
  .bad,
  .bad,
  .bad,
  .bad,
  ⟨2, 1, 24, [.z], [], 5, .i64⟩,
  .bad,
  .bad,
  .bad,
  ⟨1, 4, 48, [.d (.v (.string ⟨#[]⟩)), .d (.v (.int .i64 0)), .d (.v (.int .i64 0)), .d (.v (.string ⟨#[]⟩))], [(0, 9), (1, 34)], 0, .i64⟩,
  ⟨1, 4, 48, [.d (.v (.string ⟨#[]⟩)), .d (.v (.int .i64 0)), .d (.v (.int .i64 0)), .d (.v (.string ⟨#[]⟩))], [(0, 9), (1, 34)], 0, .i64⟩,
  .bad,
  .bad,
  .bad,
  .bad,
  .bad,
  ⟨1, 2, 24, [.d (.v (.string ⟨#[]⟩)), .d (.v (.int .i64 0))], [(0, 9), (1, 3)], 0, .i64⟩,
  ⟨1, 2, 24, [.d (.v (.string ⟨#[]⟩)), .d (.v (.int .i64 0))], [(0, 9), (1, 3)], 0, .i64⟩,
  ⟨1, 2, 24, [.d (.v (.string ⟨#[]⟩)), .d (.v (.int .i64 0))], [(0, 9), (1, 3)], 0, .i64⟩,
  .bad,
  .bad,
  .bad,
  .bad,
  .bad,
  .bad,
  .bad,
  .bad,
  .bad,
  .bad,
  .bad,
  .bad,
  .bad,
  .bad,
  .bad,
  .bad,
  .bad,
  .bad,
  .bad,
  .bad,
  .bad,
  .bad,
  .bad,
  .bad,
  .bad,
  .bad,
  .bad,
  .bad,
  .bad,
  .bad,
  .bad,
  .bad,
  .bad,
  .bad,
  .bad,
  .bad,
  .bad,
  ⟨3, 1, 8, [.d (.v (.int .i64 0))], [], 0, .i64⟩,
  .bad,
  .bad,
  .bad,
  .bad,
  .bad,
  .bad,
  .bad,
  .bad,
  .bad,
  .bad,
  .bad,
  .bad,
  .bad,
  .bad,
  .bad,
  .bad,
  .bad,
  .bad,
  .bad,
  .bad,
  .bad,
  .bad,
  .bad,
  .bad,
  .bad,
  .bad,
  .bad,
  .bad,
  .bad,
  .bad,
  .bad,
  .bad,
  .bad,
  .bad,
  .bad,
  ⟨3, 1, 1, [.d (.v (.int .u8 0))], [], 0, .u8⟩,
  ⟨3, 1, 1, [.d (.v (.int .u8 0))], [], 0, .u8⟩,
  .bad,
  .bad,
  .bad,
  .bad,
  .bad,
  .bad,
  .bad]
noncomputable def tt : Nat → Ty := fun t => ttl.getD t .bad
theorem ttOK : TyOK Try.prog tt := TyOK.of_list (by kernel_rfl)
theorem tts : tt 2 = ⟨3, 1, 8, [.d (.v (.int .i64 0))], [], 0, .i64⟩ ∧ tt 3 = ⟨3, 1, 8, [.d (.v (.int .i64 0))], [], 0, .i64⟩ ∧ tt 4 = ⟨4, 1, 1, [.d (.v (.bool false))], [], 0, .i64⟩ ∧ tt 5 = ⟨3, 1, 1, [.d (.v (.int .u8 0))], [], 0, .u8⟩ ∧ tt 6 = ⟨3, 1, 1, [.d (.v (.int .u8 0))], [], 0, .u8⟩ ∧ tt 7 = ⟨1, 4, 24, [.d (.v (.int .i64 0)), .d (.v (.int .i64 0)), .d (.v (.bool false)), .d (.v (.int .u8 0))], [(0, 2), (1, 3), (2, 4), (3, 6)], 0, .i64⟩ ∧ tt 8 = ⟨1, 4, 24, [.d (.v (.int .i64 0)), .d (.v (.int .i64 0)), .d (.v (.bool false)), .d (.v (.int .u8 0))], [(0, 2), (1, 3), (2, 4), (3, 6)], 0, .i64⟩ ∧ tt 9 = ⟨5, 1, 16, [.d (.v (.string ⟨#[]⟩))], [], 0, .i64⟩ ∧ tt 10 = ⟨5, 1, 16, [.d (.v (.string ⟨#[]⟩))], [], 0, .i64⟩ ∧ tt 11 = ⟨5, 1, 16, [.d (.v (.string ⟨#[]⟩))], [], 0, .i64⟩ ∧ tt 22 = ⟨2, 1, 24, [.z], [], 115, .i64⟩ ∧ tt 24 = ⟨2, 1, 24, [.z], [], 3, .i64⟩ ∧ tt 26 = ⟨2, 1, 24, [.z], [], 117, .i64⟩ ∧ tt 33 = ⟨1, 3, 32, [.d (.v (.int .i64 0)), .d (.v (.int .i64 0)), .d (.v (.string ⟨#[]⟩))], [(0, 3), (1, 3), (2, 9)], 0, .i64⟩ ∧ tt 34 = ⟨1, 3, 32, [.d (.v (.int .i64 0)), .d (.v (.int .i64 0)), .d (.v (.string ⟨#[]⟩))], [(0, 3), (1, 3), (2, 9)], 0, .i64⟩ ∧ tt 37 = ⟨1, 3, 32, [.d (.v (.int .i64 0)), .d (.v (.int .i64 0)), .d (.v (.string ⟨#[]⟩))], [(0, 3), (1, 3), (2, 9)], 0, .i64⟩ ∧ tt 40 = ⟨2, 1, 24, [.z], [], 123, .i64⟩ ∧ tt 41 = ⟨2, 1, 24, [.z], [], 9, .i64⟩ ∧ tt 45 = ⟨2, 1, 24, [.z], [], 126, .i64⟩ ∧ tt 52 = ⟨2, 1, 24, [.z], [], 194, .i64⟩ ∧ tt 53 = ⟨1, 2, 32, [.d (.v (.bool false)), .z], [(0, 4), (1, 52)], 0, .i64⟩ ∧ tt 54 = ⟨1, 2, 32, [.d (.v (.bool false)), .z], [(0, 4), (1, 52)], 0, .i64⟩ ∧ tt 56 = ⟨2, 1, 24, [.z], [], 134, .i64⟩ ∧ tt 57 = ⟨1, 2, 32, [.d (.v (.bool false)), .z], [(0, 4), (1, 56)], 0, .i64⟩ ∧ tt 58 = ⟨1, 2, 32, [.d (.v (.bool false)), .z], [(0, 4), (1, 56)], 0, .i64⟩ ∧ tt 64 = ⟨1, 5, 56, [.d (.v (.int .i64 0)), .d (.v (.int .i64 0)), .d (.v (.bool false)), .d (.v (.int .i64 0)), .z], [(0, 3), (1, 3), (2, 4), (3, 3), (4, 52)], 0, .i64⟩ ∧ tt 65 = ⟨1, 5, 56, [.d (.v (.int .i64 0)), .d (.v (.int .i64 0)), .d (.v (.bool false)), .d (.v (.int .i64 0)), .z], [(0, 3), (1, 3), (2, 4), (3, 3), (4, 52)], 0, .i64⟩ ∧ tt 67 = ⟨1, 5, 56, [.d (.v (.int .i64 0)), .d (.v (.int .i64 0)), .d (.v (.bool false)), .d (.v (.int .i64 0)), .z], [(0, 3), (1, 3), (2, 4), (3, 3), (4, 56)], 0, .i64⟩ ∧ tt 68 = ⟨1, 5, 56, [.d (.v (.int .i64 0)), .d (.v (.int .i64 0)), .d (.v (.bool false)), .d (.v (.int .i64 0)), .z], [(0, 3), (1, 3), (2, 4), (3, 3), (4, 56)], 0, .i64⟩ ∧ tt 74 = ⟨2, 1, 24, [.z], [], 201, .i64⟩ ∧ tt 75 = ⟨2, 1, 24, [.z], [], 65, .i64⟩ ∧ tt 76 = ⟨1, 3, 56, [.z, .z, .d (.v (.int .i64 0))], [(0, 74), (1, 75), (2, 3)], 0, .i64⟩ ∧ tt 77 = ⟨1, 3, 56, [.z, .z, .d (.v (.int .i64 0))], [(0, 74), (1, 75), (2, 3)], 0, .i64⟩ ∧ tt 80 = ⟨2, 1, 24, [.z], [], 202, .i64⟩ ∧ tt 81 = ⟨2, 1, 24, [.z], [], 68, .i64⟩ ∧ tt 82 = ⟨1, 3, 56, [.z, .z, .d (.v (.int .i64 0))], [(0, 80), (1, 81), (2, 3)], 0, .i64⟩ ∧ tt 83 = ⟨1, 3, 56, [.z, .z, .d (.v (.int .i64 0))], [(0, 80), (1, 81), (2, 3)], 0, .i64⟩ ∧ tt 89 = ⟨2, 1, 24, [.z], [], 162, .i64⟩ ∧ tt 90 = ⟨2, 1, 24, [.z], [], 165, .i64⟩ ∧ tt 93 = ⟨2, 1, 24, [.z], [], 166, .i64⟩ ∧ tt 96 = ⟨2, 1, 24, [.z], [], 167, .i64⟩ ∧ tt 103 = ⟨2, 1, 24, [.z], [], 176, .i64⟩ ∧ tt 106 = ⟨2, 1, 24, [.z], [], 180, .i64⟩ ∧ tt 114 = ⟨1, 4, 56, [.d (.v (.int .i64 0)), .d (.v (.int .i64 0)), .d (.v (.string ⟨#[]⟩)), .z], [(0, 34), (3, 24)], 0, .i64⟩ ∧ tt 115 = ⟨1, 4, 56, [.d (.v (.int .i64 0)), .d (.v (.int .i64 0)), .d (.v (.string ⟨#[]⟩)), .z], [(0, 34), (3, 24)], 0, .i64⟩ ∧ tt 116 = ⟨1, 4, 56, [.d (.v (.int .i64 0)), .d (.v (.int .i64 0)), .d (.v (.string ⟨#[]⟩)), .z], [(0, 37), (3, 24)], 0, .i64⟩ ∧ tt 117 = ⟨1, 4, 56, [.d (.v (.int .i64 0)), .d (.v (.int .i64 0)), .d (.v (.string ⟨#[]⟩)), .z], [(0, 37), (3, 24)], 0, .i64⟩ ∧ tt 122 = ⟨1, 2, 40, [.d (.v (.string ⟨#[]⟩)), .z], [(0, 9), (1, 103)], 0, .i64⟩ ∧ tt 123 = ⟨1, 2, 40, [.d (.v (.string ⟨#[]⟩)), .z], [(0, 9), (1, 103)], 0, .i64⟩ ∧ tt 125 = ⟨1, 2, 40, [.d (.v (.string ⟨#[]⟩)), .z], [(0, 9), (1, 106)], 0, .i64⟩ ∧ tt 126 = ⟨1, 2, 40, [.d (.v (.string ⟨#[]⟩)), .z], [(0, 9), (1, 106)], 0, .i64⟩ ∧ tt 133 = ⟨1, 4, 48, [.d (.v (.string ⟨#[]⟩)), .d (.v (.int .i64 0)), .d (.v (.int .i64 0)), .d (.v (.string ⟨#[]⟩))], [(0, 9), (1, 37)], 0, .i64⟩ ∧ tt 134 = ⟨1, 4, 48, [.d (.v (.string ⟨#[]⟩)), .d (.v (.int .i64 0)), .d (.v (.int .i64 0)), .d (.v (.string ⟨#[]⟩))], [(0, 9), (1, 37)], 0, .i64⟩ ∧ tt 161 = ⟨1, 2, 40, [.d (.v (.string ⟨#[]⟩)), .z], [(0, 9), (1, 24)], 0, .i64⟩ ∧ tt 162 = ⟨1, 2, 40, [.d (.v (.string ⟨#[]⟩)), .z], [(0, 9), (1, 24)], 0, .i64⟩ ∧ tt 164 = ⟨1, 3, 64, [.d (.v (.string ⟨#[]⟩)), .z, .z], [(0, 9), (1, 24), (2, 24)], 0, .i64⟩ ∧ tt 165 = ⟨1, 3, 64, [.d (.v (.string ⟨#[]⟩)), .z, .z], [(0, 9), (1, 24), (2, 24)], 0, .i64⟩ ∧ tt 166 = ⟨1, 2, 40, [.d (.v (.string ⟨#[]⟩)), .z], [(0, 9), (1, 24)], 0, .i64⟩ ∧ tt 167 = ⟨1, 3, 64, [.d (.v (.string ⟨#[]⟩)), .z, .z], [(0, 9), (1, 24), (2, 24)], 0, .i64⟩ ∧ tt 175 = ⟨1, 7, 72, [.d (.v (.int .i64 0)), .d (.v (.int .i64 0)), .d (.v (.int .i64 0)), .d (.v (.string ⟨#[]⟩)), .d (.v (.int .i64 0)), .d (.v (.int .i64 0)), .d (.v (.string ⟨#[]⟩))], [(0, 3), (1, 3), (2, 3), (3, 9), (4, 34)], 0, .i64⟩ ∧ tt 176 = ⟨1, 7, 72, [.d (.v (.int .i64 0)), .d (.v (.int .i64 0)), .d (.v (.int .i64 0)), .d (.v (.string ⟨#[]⟩)), .d (.v (.int .i64 0)), .d (.v (.int .i64 0)), .d (.v (.string ⟨#[]⟩))], [(0, 3), (1, 3), (2, 3), (3, 9), (4, 34)], 0, .i64⟩ ∧ tt 179 = ⟨1, 7, 72, [.d (.v (.int .i64 0)), .d (.v (.int .i64 0)), .d (.v (.int .i64 0)), .d (.v (.string ⟨#[]⟩)), .d (.v (.int .i64 0)), .d (.v (.int .i64 0)), .d (.v (.string ⟨#[]⟩))], [(0, 3), (1, 3), (2, 3), (3, 9), (4, 37)], 0, .i64⟩ ∧ tt 180 = ⟨1, 7, 72, [.d (.v (.int .i64 0)), .d (.v (.int .i64 0)), .d (.v (.int .i64 0)), .d (.v (.string ⟨#[]⟩)), .d (.v (.int .i64 0)), .d (.v (.int .i64 0)), .d (.v (.string ⟨#[]⟩))], [(0, 3), (1, 3), (2, 3), (3, 9), (4, 37)], 0, .i64⟩ ∧ tt 189 = ⟨2, 1, 24, [.z], [], 5, .i64⟩ ∧ tt 193 = ⟨1, 4, 48, [.d (.v (.string ⟨#[]⟩)), .d (.v (.int .i64 0)), .d (.v (.int .i64 0)), .d (.v (.string ⟨#[]⟩))], [(0, 9), (1, 34)], 0, .i64⟩ ∧ tt 194 = ⟨1, 4, 48, [.d (.v (.string ⟨#[]⟩)), .d (.v (.int .i64 0)), .d (.v (.int .i64 0)), .d (.v (.string ⟨#[]⟩))], [(0, 9), (1, 34)], 0, .i64⟩ ∧ tt 200 = ⟨1, 2, 24, [.d (.v (.string ⟨#[]⟩)), .d (.v (.int .i64 0))], [(0, 9), (1, 3)], 0, .i64⟩ ∧ tt 201 = ⟨1, 2, 24, [.d (.v (.string ⟨#[]⟩)), .d (.v (.int .i64 0))], [(0, 9), (1, 3)], 0, .i64⟩ ∧ tt 202 = ⟨1, 2, 24, [.d (.v (.string ⟨#[]⟩)), .d (.v (.int .i64 0))], [(0, 9), (1, 3)], 0, .i64⟩ ∧ tt 240 = ⟨3, 1, 8, [.d (.v (.int .i64 0))], [], 0, .i64⟩ ∧ tt 276 = ⟨3, 1, 1, [.d (.v (.int .u8 0))], [], 0, .u8⟩ ∧ tt 277 = ⟨3, 1, 1, [.d (.v (.int .u8 0))], [], 0, .u8⟩ :=
  ⟨rfl, rfl, rfl, rfl, rfl, rfl, rfl, rfl, rfl, rfl, rfl, rfl, rfl, rfl, rfl, rfl, rfl, rfl, rfl, rfl, rfl, rfl, rfl, rfl, rfl, rfl, rfl, rfl, rfl, rfl, rfl, rfl, rfl, rfl, rfl, rfl, rfl, rfl, rfl, rfl, rfl, rfl, rfl, rfl, rfl, rfl, rfl, rfl, rfl, rfl, rfl, rfl, rfl, rfl, rfl, rfl, rfl, rfl, rfl, rfl, rfl, rfl, rfl, rfl, rfl, rfl, rfl, rfl, rfl, rfl, rfl, rfl⟩
def eqk : Nat → List Nat := fun t => if t = 34 then [1, 1, 3] else if t = 37 then [1, 1, 3] else if t = 134 then [3, 1, 1, 3] else if t = 176 then [1, 1, 1, 3, 1, 1, 3] else if t = 180 then [1, 1, 1, 3, 1, 1, 3] else if t = 194 then [3, 1, 1, 3] else if t = 201 then [3, 1] else if t = 202 then [3, 1] else []
theorem kind1_inv {v : Value} (h : kindV v = 1) : ∃ x : Int, v = .int .i64 x := by
  cases v with
  | int k n => cases k <;> simp_all [kindV]
  | _ => simp_all [kindV]
theorem kind3_inv {v : Value} (h : kindV v = 3) : ∃ x : ByteArray, v = .string x := by
  cases v with
  | int k n => cases k <;> simp_all [kindV]
  | _ => simp_all [kindV]
theorem kinds34 {xs : List Value} (h : xs.map kindV = [1, 1, 3]) : ∃ (x0 : Int) (x1 : Int) (x2 : ByteArray), xs = [.int .i64 x0, .int .i64 x1, .string x2] := by
  obtain ⟨v0, xs, rfl⟩ : ∃ v l, xs = v :: l := by cases xs with
    | nil => simp at h
    | cons v l => exact ⟨v, l, rfl⟩
  simp only [List.map_cons, List.cons.injEq] at h
  obtain ⟨h0, h⟩ := h
  obtain ⟨v1, xs, rfl⟩ : ∃ v l, xs = v :: l := by cases xs with
    | nil => simp at h
    | cons v l => exact ⟨v, l, rfl⟩
  simp only [List.map_cons, List.cons.injEq] at h
  obtain ⟨h1, h⟩ := h
  obtain ⟨v2, xs, rfl⟩ : ∃ v l, xs = v :: l := by cases xs with
    | nil => simp at h
    | cons v l => exact ⟨v, l, rfl⟩
  simp only [List.map_cons, List.cons.injEq] at h
  obtain ⟨h2, h⟩ := h
  have : xs = [] := by simpa using h
  subst this
  obtain ⟨x0, rfl⟩ := kind1_inv h0
  obtain ⟨x1, rfl⟩ := kind1_inv h1
  obtain ⟨x2, rfl⟩ := kind3_inv h2
  exact ⟨x0, x1, x2, rfl⟩
theorem kinds37 {xs : List Value} (h : xs.map kindV = [1, 1, 3]) : ∃ (x0 : Int) (x1 : Int) (x2 : ByteArray), xs = [.int .i64 x0, .int .i64 x1, .string x2] := by
  obtain ⟨v0, xs, rfl⟩ : ∃ v l, xs = v :: l := by cases xs with
    | nil => simp at h
    | cons v l => exact ⟨v, l, rfl⟩
  simp only [List.map_cons, List.cons.injEq] at h
  obtain ⟨h0, h⟩ := h
  obtain ⟨v1, xs, rfl⟩ : ∃ v l, xs = v :: l := by cases xs with
    | nil => simp at h
    | cons v l => exact ⟨v, l, rfl⟩
  simp only [List.map_cons, List.cons.injEq] at h
  obtain ⟨h1, h⟩ := h
  obtain ⟨v2, xs, rfl⟩ : ∃ v l, xs = v :: l := by cases xs with
    | nil => simp at h
    | cons v l => exact ⟨v, l, rfl⟩
  simp only [List.map_cons, List.cons.injEq] at h
  obtain ⟨h2, h⟩ := h
  have : xs = [] := by simpa using h
  subst this
  obtain ⟨x0, rfl⟩ := kind1_inv h0
  obtain ⟨x1, rfl⟩ := kind1_inv h1
  obtain ⟨x2, rfl⟩ := kind3_inv h2
  exact ⟨x0, x1, x2, rfl⟩
theorem kinds134 {xs : List Value} (h : xs.map kindV = [3, 1, 1, 3]) : ∃ (x0 : ByteArray) (x1 : Int) (x2 : Int) (x3 : ByteArray), xs = [.string x0, .int .i64 x1, .int .i64 x2, .string x3] := by
  obtain ⟨v0, xs, rfl⟩ : ∃ v l, xs = v :: l := by cases xs with
    | nil => simp at h
    | cons v l => exact ⟨v, l, rfl⟩
  simp only [List.map_cons, List.cons.injEq] at h
  obtain ⟨h0, h⟩ := h
  obtain ⟨v1, xs, rfl⟩ : ∃ v l, xs = v :: l := by cases xs with
    | nil => simp at h
    | cons v l => exact ⟨v, l, rfl⟩
  simp only [List.map_cons, List.cons.injEq] at h
  obtain ⟨h1, h⟩ := h
  obtain ⟨v2, xs, rfl⟩ : ∃ v l, xs = v :: l := by cases xs with
    | nil => simp at h
    | cons v l => exact ⟨v, l, rfl⟩
  simp only [List.map_cons, List.cons.injEq] at h
  obtain ⟨h2, h⟩ := h
  obtain ⟨v3, xs, rfl⟩ : ∃ v l, xs = v :: l := by cases xs with
    | nil => simp at h
    | cons v l => exact ⟨v, l, rfl⟩
  simp only [List.map_cons, List.cons.injEq] at h
  obtain ⟨h3, h⟩ := h
  have : xs = [] := by simpa using h
  subst this
  obtain ⟨x0, rfl⟩ := kind3_inv h0
  obtain ⟨x1, rfl⟩ := kind1_inv h1
  obtain ⟨x2, rfl⟩ := kind1_inv h2
  obtain ⟨x3, rfl⟩ := kind3_inv h3
  exact ⟨x0, x1, x2, x3, rfl⟩
theorem kinds176 {xs : List Value} (h : xs.map kindV = [1, 1, 1, 3, 1, 1, 3]) : ∃ (x0 : Int) (x1 : Int) (x2 : Int) (x3 : ByteArray) (x4 : Int) (x5 : Int) (x6 : ByteArray), xs = [.int .i64 x0, .int .i64 x1, .int .i64 x2, .string x3, .int .i64 x4, .int .i64 x5, .string x6] := by
  obtain ⟨v0, xs, rfl⟩ : ∃ v l, xs = v :: l := by cases xs with
    | nil => simp at h
    | cons v l => exact ⟨v, l, rfl⟩
  simp only [List.map_cons, List.cons.injEq] at h
  obtain ⟨h0, h⟩ := h
  obtain ⟨v1, xs, rfl⟩ : ∃ v l, xs = v :: l := by cases xs with
    | nil => simp at h
    | cons v l => exact ⟨v, l, rfl⟩
  simp only [List.map_cons, List.cons.injEq] at h
  obtain ⟨h1, h⟩ := h
  obtain ⟨v2, xs, rfl⟩ : ∃ v l, xs = v :: l := by cases xs with
    | nil => simp at h
    | cons v l => exact ⟨v, l, rfl⟩
  simp only [List.map_cons, List.cons.injEq] at h
  obtain ⟨h2, h⟩ := h
  obtain ⟨v3, xs, rfl⟩ : ∃ v l, xs = v :: l := by cases xs with
    | nil => simp at h
    | cons v l => exact ⟨v, l, rfl⟩
  simp only [List.map_cons, List.cons.injEq] at h
  obtain ⟨h3, h⟩ := h
  obtain ⟨v4, xs, rfl⟩ : ∃ v l, xs = v :: l := by cases xs with
    | nil => simp at h
    | cons v l => exact ⟨v, l, rfl⟩
  simp only [List.map_cons, List.cons.injEq] at h
  obtain ⟨h4, h⟩ := h
  obtain ⟨v5, xs, rfl⟩ : ∃ v l, xs = v :: l := by cases xs with
    | nil => simp at h
    | cons v l => exact ⟨v, l, rfl⟩
  simp only [List.map_cons, List.cons.injEq] at h
  obtain ⟨h5, h⟩ := h
  obtain ⟨v6, xs, rfl⟩ : ∃ v l, xs = v :: l := by cases xs with
    | nil => simp at h
    | cons v l => exact ⟨v, l, rfl⟩
  simp only [List.map_cons, List.cons.injEq] at h
  obtain ⟨h6, h⟩ := h
  have : xs = [] := by simpa using h
  subst this
  obtain ⟨x0, rfl⟩ := kind1_inv h0
  obtain ⟨x1, rfl⟩ := kind1_inv h1
  obtain ⟨x2, rfl⟩ := kind1_inv h2
  obtain ⟨x3, rfl⟩ := kind3_inv h3
  obtain ⟨x4, rfl⟩ := kind1_inv h4
  obtain ⟨x5, rfl⟩ := kind1_inv h5
  obtain ⟨x6, rfl⟩ := kind3_inv h6
  exact ⟨x0, x1, x2, x3, x4, x5, x6, rfl⟩
theorem kinds180 {xs : List Value} (h : xs.map kindV = [1, 1, 1, 3, 1, 1, 3]) : ∃ (x0 : Int) (x1 : Int) (x2 : Int) (x3 : ByteArray) (x4 : Int) (x5 : Int) (x6 : ByteArray), xs = [.int .i64 x0, .int .i64 x1, .int .i64 x2, .string x3, .int .i64 x4, .int .i64 x5, .string x6] := by
  obtain ⟨v0, xs, rfl⟩ : ∃ v l, xs = v :: l := by cases xs with
    | nil => simp at h
    | cons v l => exact ⟨v, l, rfl⟩
  simp only [List.map_cons, List.cons.injEq] at h
  obtain ⟨h0, h⟩ := h
  obtain ⟨v1, xs, rfl⟩ : ∃ v l, xs = v :: l := by cases xs with
    | nil => simp at h
    | cons v l => exact ⟨v, l, rfl⟩
  simp only [List.map_cons, List.cons.injEq] at h
  obtain ⟨h1, h⟩ := h
  obtain ⟨v2, xs, rfl⟩ : ∃ v l, xs = v :: l := by cases xs with
    | nil => simp at h
    | cons v l => exact ⟨v, l, rfl⟩
  simp only [List.map_cons, List.cons.injEq] at h
  obtain ⟨h2, h⟩ := h
  obtain ⟨v3, xs, rfl⟩ : ∃ v l, xs = v :: l := by cases xs with
    | nil => simp at h
    | cons v l => exact ⟨v, l, rfl⟩
  simp only [List.map_cons, List.cons.injEq] at h
  obtain ⟨h3, h⟩ := h
  obtain ⟨v4, xs, rfl⟩ : ∃ v l, xs = v :: l := by cases xs with
    | nil => simp at h
    | cons v l => exact ⟨v, l, rfl⟩
  simp only [List.map_cons, List.cons.injEq] at h
  obtain ⟨h4, h⟩ := h
  obtain ⟨v5, xs, rfl⟩ : ∃ v l, xs = v :: l := by cases xs with
    | nil => simp at h
    | cons v l => exact ⟨v, l, rfl⟩
  simp only [List.map_cons, List.cons.injEq] at h
  obtain ⟨h5, h⟩ := h
  obtain ⟨v6, xs, rfl⟩ : ∃ v l, xs = v :: l := by cases xs with
    | nil => simp at h
    | cons v l => exact ⟨v, l, rfl⟩
  simp only [List.map_cons, List.cons.injEq] at h
  obtain ⟨h6, h⟩ := h
  have : xs = [] := by simpa using h
  subst this
  obtain ⟨x0, rfl⟩ := kind1_inv h0
  obtain ⟨x1, rfl⟩ := kind1_inv h1
  obtain ⟨x2, rfl⟩ := kind1_inv h2
  obtain ⟨x3, rfl⟩ := kind3_inv h3
  obtain ⟨x4, rfl⟩ := kind1_inv h4
  obtain ⟨x5, rfl⟩ := kind1_inv h5
  obtain ⟨x6, rfl⟩ := kind3_inv h6
  exact ⟨x0, x1, x2, x3, x4, x5, x6, rfl⟩
theorem kinds194 {xs : List Value} (h : xs.map kindV = [3, 1, 1, 3]) : ∃ (x0 : ByteArray) (x1 : Int) (x2 : Int) (x3 : ByteArray), xs = [.string x0, .int .i64 x1, .int .i64 x2, .string x3] := by
  obtain ⟨v0, xs, rfl⟩ : ∃ v l, xs = v :: l := by cases xs with
    | nil => simp at h
    | cons v l => exact ⟨v, l, rfl⟩
  simp only [List.map_cons, List.cons.injEq] at h
  obtain ⟨h0, h⟩ := h
  obtain ⟨v1, xs, rfl⟩ : ∃ v l, xs = v :: l := by cases xs with
    | nil => simp at h
    | cons v l => exact ⟨v, l, rfl⟩
  simp only [List.map_cons, List.cons.injEq] at h
  obtain ⟨h1, h⟩ := h
  obtain ⟨v2, xs, rfl⟩ : ∃ v l, xs = v :: l := by cases xs with
    | nil => simp at h
    | cons v l => exact ⟨v, l, rfl⟩
  simp only [List.map_cons, List.cons.injEq] at h
  obtain ⟨h2, h⟩ := h
  obtain ⟨v3, xs, rfl⟩ : ∃ v l, xs = v :: l := by cases xs with
    | nil => simp at h
    | cons v l => exact ⟨v, l, rfl⟩
  simp only [List.map_cons, List.cons.injEq] at h
  obtain ⟨h3, h⟩ := h
  have : xs = [] := by simpa using h
  subst this
  obtain ⟨x0, rfl⟩ := kind3_inv h0
  obtain ⟨x1, rfl⟩ := kind1_inv h1
  obtain ⟨x2, rfl⟩ := kind1_inv h2
  obtain ⟨x3, rfl⟩ := kind3_inv h3
  exact ⟨x0, x1, x2, x3, rfl⟩
theorem kinds201 {xs : List Value} (h : xs.map kindV = [3, 1]) : ∃ (x0 : ByteArray) (x1 : Int), xs = [.string x0, .int .i64 x1] := by
  obtain ⟨v0, xs, rfl⟩ : ∃ v l, xs = v :: l := by cases xs with
    | nil => simp at h
    | cons v l => exact ⟨v, l, rfl⟩
  simp only [List.map_cons, List.cons.injEq] at h
  obtain ⟨h0, h⟩ := h
  obtain ⟨v1, xs, rfl⟩ : ∃ v l, xs = v :: l := by cases xs with
    | nil => simp at h
    | cons v l => exact ⟨v, l, rfl⟩
  simp only [List.map_cons, List.cons.injEq] at h
  obtain ⟨h1, h⟩ := h
  have : xs = [] := by simpa using h
  subst this
  obtain ⟨x0, rfl⟩ := kind3_inv h0
  obtain ⟨x1, rfl⟩ := kind1_inv h1
  exact ⟨x0, x1, rfl⟩
theorem kinds202 {xs : List Value} (h : xs.map kindV = [3, 1]) : ∃ (x0 : ByteArray) (x1 : Int), xs = [.string x0, .int .i64 x1] := by
  obtain ⟨v0, xs, rfl⟩ : ∃ v l, xs = v :: l := by cases xs with
    | nil => simp at h
    | cons v l => exact ⟨v, l, rfl⟩
  simp only [List.map_cons, List.cons.injEq] at h
  obtain ⟨h0, h⟩ := h
  obtain ⟨v1, xs, rfl⟩ : ∃ v l, xs = v :: l := by cases xs with
    | nil => simp at h
    | cons v l => exact ⟨v, l, rfl⟩
  simp only [List.map_cons, List.cons.injEq] at h
  obtain ⟨h1, h⟩ := h
  have : xs = [] := by simpa using h
  subst this
  obtain ⟨x0, rfl⟩ := kind3_inv h0
  obtain ⟨x1, rfl⟩ := kind1_inv h1
  exact ⟨x0, x1, rfl⟩
set_option maxHeartbeats 1000000 in
theorem eqT34 : EqT Try.prog 34 [1, 1, 3] := by
  refine ⟨by decide, fun w xs ys hx hy => ?_, fun w xs ys hx hy => ?_, fun op x y xs ys w => run_eqGuard_agg w op 34 x y xs ys Try.eqGuardType34⟩
  · obtain ⟨x0, x1, x2, hx⟩ := kinds34 hx
    obtain ⟨y0, y1, y2, hy⟩ := kinds34 hy
    subst hx; subst hy
    simp [go_sem, eqVs, eqV, beq_int, beq_bytes]
    (repeat' split) <;> simp_all
  · obtain ⟨x0, x1, x2, hx⟩ := kinds34 hx
    obtain ⟨y0, y1, y2, hy⟩ := kinds34 hy
    subst hx; subst hy
    simp [go_sem, eqVs, eqV, beq_int, beq_bytes]
    (repeat' split) <;> simp_all
set_option maxHeartbeats 1000000 in
theorem eqT37 : EqT Try.prog 37 [1, 1, 3] := by
  refine ⟨by decide, fun w xs ys hx hy => ?_, fun w xs ys hx hy => ?_, fun op x y xs ys w => run_eqGuard_agg w op 37 x y xs ys Try.eqGuardType37⟩
  · obtain ⟨x0, x1, x2, hx⟩ := kinds37 hx
    obtain ⟨y0, y1, y2, hy⟩ := kinds37 hy
    subst hx; subst hy
    simp [go_sem, eqVs, eqV, beq_int, beq_bytes]
    (repeat' split) <;> simp_all
  · obtain ⟨x0, x1, x2, hx⟩ := kinds37 hx
    obtain ⟨y0, y1, y2, hy⟩ := kinds37 hy
    subst hx; subst hy
    simp [go_sem, eqVs, eqV, beq_int, beq_bytes]
    (repeat' split) <;> simp_all
set_option maxHeartbeats 1000000 in
theorem eqT134 : EqT Try.prog 134 [3, 1, 1, 3] := by
  refine ⟨by decide, fun w xs ys hx hy => ?_, fun w xs ys hx hy => ?_, fun op x y xs ys w => run_eqGuard_agg w op 134 x y xs ys Try.eqGuardType134⟩
  · obtain ⟨x0, x1, x2, x3, hx⟩ := kinds134 hx
    obtain ⟨y0, y1, y2, y3, hy⟩ := kinds134 hy
    subst hx; subst hy
    simp [go_sem, eqVs, eqV, beq_int, beq_bytes]
    (repeat' split) <;> simp_all
  · obtain ⟨x0, x1, x2, x3, hx⟩ := kinds134 hx
    obtain ⟨y0, y1, y2, y3, hy⟩ := kinds134 hy
    subst hx; subst hy
    simp [go_sem, eqVs, eqV, beq_int, beq_bytes]
    (repeat' split) <;> simp_all
set_option maxHeartbeats 1000000 in
theorem eqT176 : EqT Try.prog 176 [1, 1, 1, 3, 1, 1, 3] := by
  refine ⟨by decide, fun w xs ys hx hy => ?_, fun w xs ys hx hy => ?_, fun op x y xs ys w => run_eqGuard_agg w op 176 x y xs ys Try.eqGuardType176⟩
  · obtain ⟨x0, x1, x2, x3, x4, x5, x6, hx⟩ := kinds176 hx
    obtain ⟨y0, y1, y2, y3, y4, y5, y6, hy⟩ := kinds176 hy
    subst hx; subst hy
    simp [go_sem, eqVs, eqV, beq_int, beq_bytes]
    (repeat' split) <;> simp_all
  · obtain ⟨x0, x1, x2, x3, x4, x5, x6, hx⟩ := kinds176 hx
    obtain ⟨y0, y1, y2, y3, y4, y5, y6, hy⟩ := kinds176 hy
    subst hx; subst hy
    simp [go_sem, eqVs, eqV, beq_int, beq_bytes]
    (repeat' split) <;> simp_all
set_option maxHeartbeats 1000000 in
theorem eqT180 : EqT Try.prog 180 [1, 1, 1, 3, 1, 1, 3] := by
  refine ⟨by decide, fun w xs ys hx hy => ?_, fun w xs ys hx hy => ?_, fun op x y xs ys w => run_eqGuard_agg w op 180 x y xs ys Try.eqGuardType180⟩
  · obtain ⟨x0, x1, x2, x3, x4, x5, x6, hx⟩ := kinds180 hx
    obtain ⟨y0, y1, y2, y3, y4, y5, y6, hy⟩ := kinds180 hy
    subst hx; subst hy
    simp [go_sem, eqVs, eqV, beq_int, beq_bytes]
    (repeat' split) <;> simp_all
  · obtain ⟨x0, x1, x2, x3, x4, x5, x6, hx⟩ := kinds180 hx
    obtain ⟨y0, y1, y2, y3, y4, y5, y6, hy⟩ := kinds180 hy
    subst hx; subst hy
    simp [go_sem, eqVs, eqV, beq_int, beq_bytes]
    (repeat' split) <;> simp_all
set_option maxHeartbeats 1000000 in
theorem eqT194 : EqT Try.prog 194 [3, 1, 1, 3] := by
  refine ⟨by decide, fun w xs ys hx hy => ?_, fun w xs ys hx hy => ?_, fun op x y xs ys w => run_eqGuard_agg w op 194 x y xs ys Try.eqGuardType194⟩
  · obtain ⟨x0, x1, x2, x3, hx⟩ := kinds194 hx
    obtain ⟨y0, y1, y2, y3, hy⟩ := kinds194 hy
    subst hx; subst hy
    simp [go_sem, eqVs, eqV, beq_int, beq_bytes]
    (repeat' split) <;> simp_all
  · obtain ⟨x0, x1, x2, x3, hx⟩ := kinds194 hx
    obtain ⟨y0, y1, y2, y3, hy⟩ := kinds194 hy
    subst hx; subst hy
    simp [go_sem, eqVs, eqV, beq_int, beq_bytes]
    (repeat' split) <;> simp_all
set_option maxHeartbeats 1000000 in
theorem eqT201 : EqT Try.prog 201 [3, 1] := by
  refine ⟨by decide, fun w xs ys hx hy => ?_, fun w xs ys hx hy => ?_, fun op x y xs ys w => run_eqGuard_agg w op 201 x y xs ys Try.eqGuardType201⟩
  · obtain ⟨x0, x1, hx⟩ := kinds201 hx
    obtain ⟨y0, y1, hy⟩ := kinds201 hy
    subst hx; subst hy
    simp [go_sem, eqVs, eqV, beq_int, beq_bytes]
    (repeat' split) <;> simp_all
  · obtain ⟨x0, x1, hx⟩ := kinds201 hx
    obtain ⟨y0, y1, hy⟩ := kinds201 hy
    subst hx; subst hy
    simp [go_sem, eqVs, eqV, beq_int, beq_bytes]
    (repeat' split) <;> simp_all
set_option maxHeartbeats 1000000 in
theorem eqT202 : EqT Try.prog 202 [3, 1] := by
  refine ⟨by decide, fun w xs ys hx hy => ?_, fun w xs ys hx hy => ?_, fun op x y xs ys w => run_eqGuard_agg w op 202 x y xs ys Try.eqGuardType202⟩
  · obtain ⟨x0, x1, hx⟩ := kinds202 hx
    obtain ⟨y0, y1, hy⟩ := kinds202 hy
    subst hx; subst hy
    simp [go_sem, eqVs, eqV, beq_int, beq_bytes]
    (repeat' split) <;> simp_all
  · obtain ⟨x0, x1, hx⟩ := kinds202 hx
    obtain ⟨y0, y1, hy⟩ := kinds202 hy
    subst hx; subst hy
    simp [go_sem, eqVs, eqV, beq_int, beq_bytes]
    (repeat' split) <;> simp_all
theorem eqOK : ∀ t, eqk t ≠ [] → EqT Try.prog t (eqk t) := by
  intro t h
  unfold eqk at h ⊢
  by_cases e34 : t = 34
  · subst e34; exact eqT34
  simp only [e34, if_false] at h ⊢
  by_cases e37 : t = 37
  · subst e37; exact eqT37
  simp only [e37, if_false] at h ⊢
  by_cases e134 : t = 134
  · subst e134; exact eqT134
  simp only [e134, if_false] at h ⊢
  by_cases e176 : t = 176
  · subst e176; exact eqT176
  simp only [e176, if_false] at h ⊢
  by_cases e180 : t = 180
  · subst e180; exact eqT180
  simp only [e180, if_false] at h ⊢
  by_cases e194 : t = 194
  · subst e194; exact eqT194
  simp only [e194, if_false] at h ⊢
  by_cases e201 : t = 201
  · subst e201; exact eqT201
  simp only [e201, if_false] at h ⊢
  by_cases e202 : t = 202
  · subst e202; exact eqT202
  simp only [e202, if_false] at h ⊢
  exact (h rfl).elim
noncomputable def EV (C : Ctx) : Env := ⟨Try.prog, tt, C, eqk⟩
theorem EV_T (C : Ctx) : (EV C).T = tt := rfl
theorem EV_q (C : Ctx) : (EV C).eqk = eqk := rfl
attribute [go_sem] tts EV_T EV_q eqk
theorem reg {C : Ctx} {id : Nat} {ops : List Oper} {F : Ex → St → Prop} {st : St} (h : vcRun (EV C) ops ops st (F .normal) ⟨⟩) : WP Try.prog C (.region id ops.toArray false) F st := WP_region (E := EV C) ttOK eqOK h.out
theorem cnd {C : Ctx} {c : Operand} {x y : Code} {F : Ex → St → Prop} {st : St} {b : Bool} (hc : ev st c = .o (.d (.v (.bool b)))) (h1 : b = true → WP Try.prog C x F st) (h2 : b = false → WP Try.prog C y F st) : WP Try.prog C (.cond c x y) F st := WP_cond (E := EV C) hc h1 h2
theorem cal {C : Ctx} {f : Nat} {args args' : List SV} {res : SV} {st : St} {K : St → SV → Prop} (h : FnC Try.prog f args' res) (he : args.map (pureS (frzH st.h (idsS args))) = args') (hfree : args'.all freeS = true) (k : K ⟨st.t, frzH st.h (idsS args) ++ adH res.all⟩ (adS (frzH st.h (idsS args)).length res)) : CallT (EV C) f args st K ⟨⟩ := ⟨CallS.frz (E := EV C) h he hfree k⟩
theorem cndt {C : Ctx} {c : Operand} {x y : Code} {F : Ex → St → Prop} {st : St} (hc : ev st c = .o (.d (.v (.bool true)))) (h : WP Try.prog C x F st) : WP Try.prog C (.cond c x y) F st := cnd_t (E := EV C) hc h
theorem cndf {C : Ctx} {c : Operand} {x y : Code} {F : Ex → St → Prop} {st : St} (hc : ev st c = .o (.d (.v (.bool false)))) (h : WP Try.prog C y F st) : WP Try.prog C (.cond c x y) F st := cnd_f (E := EV C) hc h
theorem fol : Try.prog.follows .mixedOrders = true := by kernel_rfl
theorem regd {C : Ctx} {id : Nat} {ops : List Oper} {F : Ex → St → Prop} {st : St} (hB : Region.lexB .any ops.toArray = true) (h : vcDRun (EV C) ops ops st (F .normal) ⟨⟩) : WP Try.prog C (.region id ops.toArray true) F st := WP_draw (E := EV C) ttOK eqOK fol hB h.out
theorem cald {C : Ctx} {f : Nat} {args args' : List SV} {res : SV} {h : List HB} {k : SV → Prop} (hf : FnC Try.prog f args' res) (h1 : args.map (pureS h) = args') (h2 : args'.all freeS = true) (h3 : res.all.all isD = true) (hk : k res) : CallD (EV C) f args h k ⟨⟩ := CallD.of_fn (E := EV C) hf h1 h2 h3 hk
theorem ent {f : Nat} {fn : Func} {c : Code} {rs : List ResultVar} {args : List SV} {res : SV} (hf : Try.prog.funcs[f]? = some fn) (hb : fn.body = some c) (hcall : ∀ x w, (callFunc f x).run Try.prog w = .ok (.enter f x) w) (hres : fn.results = rs.toArray)
    (h : ∀ C : Ctx, WP Try.prog C c (kont Try.prog C [] (retK (EV C) rs res)) (st0 args fn.ntmps)) : FnC Try.prog f args res := FnC.of_wp (eqk := eqk) ttOK hf hb hcall hres fun C _ => h C
theorem caldo {C : Ctx} {f : Nat} {args args' : List SV} {res : SV} {h : List HB} {k : SV → Prop} (hf : FnC Try.prog f args' res) (h1 : args.map (pureOS h) = args') (h2 : args'.all freeS = true) (h3 : res.all.all isD = true) (h4 : res.all.all isWS = true) (hk : k res) : CallD (EV C) f args h k ⟨⟩ := CallD.of_own (E := EV C) hf h1 h2 h3 h4 hk
theorem calo {C : Ctx} {f : Nat} {args args' : List SV} {res : SV} {st : St} {K : St → SV → Prop} (h : FnC Try.prog f args' res) (he : args.map (pureOS (frzH st.h (idsS args))) = args') (hfree : args'.all freeS = true) (hres : res.all.all isWS = true) (k : K ⟨st.t, frzH st.h (idsS args) ++ adG (fun _ => none) 0 res.all⟩ (adS (frzH st.h (idsS args)).length res)) : CallT (EV C) f args st K ⟨⟩ := ⟨CallS.lendF (E := EV C) h he hfree hres k⟩
theorem calm {C : Ctx} {f : Nat} {b : Bool} {cs outs : List At} {n res : Int} {a0 : SV} {st : St} {K : St → SV → Prop} (h : FnM Try.prog f b cs outs n res) (ha : isG a0 = some b) (hm : mrkOK st.h a0.cells cs outs) (k : K ⟨st.t, markH st.h a0.cells outs⟩ (oi res)) : CallT (EV C) f [a0, oi n] st K ⟨⟩ := ⟨CallS.mark (E := EV C) h (cellsM_of ha) hm k⟩
theorem caln {C : Ctx} {f : Nat} {ty0 ty1 sz' : Nat} {sub0 sub1 : List (List D)} {n res : Int} {id sz i fo : Nat} {st : St} {K : St → SV → Prop} (h : FnM Try.prog f false [.w ty0 sz' sub0] [.w ty1 sz' sub1] n res) (ok : partOK st.h id sz i fo sz' sub0) (k : K ⟨st.t, partH st.h id i fo sub1⟩ (oi res)) : CallT (EV C) f [.o (.n id sz i fo), oi n] st K ⟨⟩ := ⟨CallS.partC (E := EV C) h ok k⟩
theorem calk {C : Ctx} {f ty sz id id2 : Nat} {i : Int} {rows rows2 rows' : List (List D)} {st : St} {K : St → SV → Prop} (h : FnJ Try.prog f ty sz rows i rows2 rows') (hid : nthH st.h id = .row ty sz rows true) (hid2 : nthH st.h id2 = .row ty sz rows2 true) (hne : id ≠ id2) (k : K ⟨st.t.map (killS id), setH ((goneH st.h [id2]).map (killB id)) id (.row ty sz rows' true)⟩ (.o (.s id))) : CallT (EV C) f [.o (.s id), oi i, .o (.s id2)] st K ⟨⟩ := ⟨CallS.join (E := EV C) h hid hid2 hne k⟩
theorem cale {C : Ctx} {f : Nat} {args args' : List SV} {res : SV} {st : St} {K : St → SV → Prop} (h : FnC Try.prog f args' res) (he : args.map (pureOS st.h) = args') (hfree : args'.all freeS = true) (hres : res.all.all isWS = true) (k : K ⟨st.t, st.h ++ adG (fun _ => none) 0 res.all⟩ (adS st.h.length res)) : CallT (EV C) f args st K ⟨⟩ := ⟨CallS.lend (E := EV C) h he hfree hres k⟩
theorem regx {C : Ctx} {id : Nat} {ops l : List Oper} {F : Ex → St → Prop} {st : St} (hl : bodyX ops = l) (hB : lexX .any ops (bodyX ops).length (bodyX ops).length 0 (Array.replicate ops.length false) = true) (hb : backX .any ops (bodyX ops).length = true) (hn : (ops.any fun o => match o.op with | .buildSlice .. | .alloc .. | .store .. => true | .call c => (match c.callee with | .builtin .append => true | _ => false) | _ => false) = true) (hok : st.okB = true) (htag : (st.t.all fun s => !tagS s) = true) (h : vcXRun (EV C) ops l st (fun st' => vcXEnd (EV C) ops st' (F .normal) ⟨⟩) ⟨⟩) : WP Try.prog C (.region id ops.toArray true) F st := by
  subst hl
  have e : (fun st' => vcXEnd (EV C) ops st' (F .normal) ⟨⟩) = (fun st' => vcOps (EV C) ops (tailX ops) (finX (EV C) ops st') (F .normal)) := funext fun s => propext ⟨fun h => h.out, fun h => ⟨h⟩⟩
  rw [e] at h
  exact WP_drawX (E := EV C) ttOK eqOK fol hB hb hok htag h.out
theorem regb {C : Ctx} {id : Nat} {ops : List Oper} {F : Ex → St → Prop} {st s : St} (n : Nat) (l : List (Nat × Plan)) (hn : ops.length = n) (hp : planL ops n (Array.replicate n false) l = true) (h : vcPT (EV C) ops n l st (fun s' => s' = s) ⟨⟩) (hK : F .normal s) : WP Try.prog C (.region id ops.toArray true) F st := WP_planK (E := EV C) ttOK eqOK fol l hn hp h.out (fun _ e => e ▸ hK)
theorem regz (fz : List Nat) {C : Ctx} {id : Nat} {ops l : List Oper} {F : Ex → St → Prop} {st : St} (hl : bodyX ops = l) (hB : lexX .any ops (bodyX ops).length (bodyX ops).length 0 (Array.replicate ops.length false) = true) (hb : backX .any ops (bodyX ops).length = true) (hn : (ops.any fun o => match o.op with | .buildSlice .. | .alloc .. | .store .. => true | .call c => (match c.callee with | .builtin .append => true | _ => false) | _ => false) = true) (hok : (⟨st.t, frzH st.h fz⟩ : St).okB = true) (htag : (st.t.all fun s => !tagS s) = true) (h : vcXRun (EV C) ops l ⟨st.t, frzH st.h fz⟩ (fun st' => vcXEnd (EV C) ops st' (F .normal) ⟨⟩) ⟨⟩) : WP Try.prog C (.region id ops.toArray true) F st :=
  fun g V a w hr => by
    obtain ⟨g', V', hr', _⟩ := frzH_ok fz hr
    exact regx (st := ⟨st.t, frzH st.h fz⟩) hl hB hb hn hok htag h g' V' a w hr'
theorem calx {C : Ctx} {f : Nat} {args args' : List SV} {res : SV} {h : List HB} {k : SV → Prop} (hf : FnC Try.prog f args' res) (h1 : args.map (pureS h) = args') (h2 : args'.all freeS = true) (ht : tagS res = true) (hk : k (liftS res)) : CallX (EV C) f args h k ⟨⟩ := ⟨.inr ⟨args', res, hf, h1, h2, ht, hk⟩⟩
theorem caldx {C : Ctx} {f : Nat} {args args' : List SV} {res : SV} {h : List HB} {k : SV → Prop} (hf : FnC Try.prog f args' res) (h1 : args.map (pureS h) = args') (h2 : args'.all freeS = true) (h3 : res.all.all isD = true) (hk : k res) : CallX (EV C) f args h k ⟨⟩ := ⟨.inl (CallD.of_fn (E := EV C) hf h1 h2 h3 hk)⟩
theorem entm {f : Nat} {fn : Func} {c : Code} {rs : List ResultVar} {b : Bool} {cs outs : List At} {n res : Int} (hf : Try.prog.funcs[f]? = some fn) (hb : fn.body = some c) (hcall : ∀ x w, (callFunc f x).run Try.prog w = .ok (.enter f x) w) (hres : fn.results = rs.toArray) (hone : b = false → cs.length = 1) (hsh : shp cs outs)
    (h : ∀ (C : Ctx) (tg : Nat → Option (Value × List Nat × List Value)), WP Try.prog C c (kont Try.prog C [] (retM (EV C) rs res (adG tg 0 outs))) (stM tg b cs n fn.ntmps)) : FnM Try.prog f b cs outs n res := FnM.of_wp (eqk := eqk) ttOK hf hb hcall hres hone hsh h
end Go.Proofs.Yteganoldfldlhaa
