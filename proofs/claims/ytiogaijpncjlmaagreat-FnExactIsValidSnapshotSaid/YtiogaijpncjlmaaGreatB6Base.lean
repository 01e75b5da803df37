/-
  The table of this translation's types, by program (gentypes.py), and that it is what the program says.
-/
import Derived.Test.YtiogaijpncjlmaaGreatProg
import Derived.Test.YtiogaijpncjlmaaGreatL3
import Derived.Test.YtiogaijpncjlmaaGreatL5
import Derived.KernelRfl
set_option linter.all false
namespace Go.Proofs.YtiogaijpncjlmaaGreat
open Go Go.Sx Go.RowKit

noncomputable def ttl : List Ty := [.bad,
  .bad,
  ⟨3, 1, 8, [.d (.v (.int .i64 0))], [], 0, .i64⟩,
  ⟨3, 1, 8, [.d (.v (.int .i64 0))], [], 0, .i64⟩,
  ⟨4, 1, 1, [.d (.v (.bool false))], [], 0, .i64⟩,
  ⟨3, 1, 1, [.d (.v (.int .u8 0))], [], 0, .u8⟩,
  ⟨3, 1, 1, [.d (.v (.int .u8 0))], [], 0, .u8⟩,
  ⟨1, 4, 24, [.d (.v (.int .i64 0)), .d (.v (.int .i64 0)), .d (.v (.bool false)), .d (.v (.int .u8 0))], [(0, 2), (1, 3), (2, 4), (3, 6)], 0, .i64⟩,
  ⟨1, 4, 24, [.d (.v (.int .i64 0)), .d (.v (.int .i64 0)), .d (.v (.bool false)), .d (.v (.int .u8 0))], [(0, 2), (1, 3), (2, 4), (3, 6)], 0, .i64⟩,
  ⟨5, 1, 16, [.d (.v (.string ⟨#[]⟩))], [], 0, .i64⟩,
  ⟨5, 1, 16, [.d (.v (.string ⟨#[]⟩))], [], 0, .i64⟩,
  ⟨5, 1, 16, [.d (.v (.string ⟨#[]⟩))], [], 0, .i64⟩,
  .bad,
  .bad,
  .bad,
  .bad,
  .bad,
  .bad,
  .bad,
  .bad,
  .bad,
  .bad,
  ⟨2, 1, 24, [.z], [], 75, .i64⟩,
  ⟨2, 1, 24, [.z], [], 79, .i64⟩,
  ⟨1, 3, 56, [.z, .z, .d (.v (.int .i64 0))], [(0, 22), (1, 23), (2, 3)], 0, .i64⟩,
  ⟨1, 3, 56, [.z, .z, .d (.v (.int .i64 0))], [(0, 22), (1, 23), (2, 3)], 0, .i64⟩,
  ⟨2, 1, 24, [.z], [], 54, .i64⟩,
  ⟨1, 4, 80, [.z, .z, .d (.v (.int .i64 0)), .z], [(0, 25), (3, 26)], 0, .i64⟩,
  ⟨1, 4, 80, [.z, .z, .d (.v (.int .i64 0)), .z], [(0, 25), (3, 26)], 0, .i64⟩,
  .bad,
  .bad,
  ⟨2, 1, 24, [.z], [], 87, .i64⟩,
  ⟨2, 1, 24, [.z], [], 58, .i64⟩,
  ⟨1, 3, 56, [.z, .z, .d (.v (.int .i64 0))], [(0, 31), (1, 32), (2, 3)], 0, .i64⟩,
  ⟨1, 3, 56, [.z, .z, .d (.v (.int .i64 0))], [(0, 31), (1, 32), (2, 3)], 0, .i64⟩,
  ⟨2, 1, 24, [.z], [], 68, .i64⟩,
  ⟨1, 4, 80, [.z, .z, .d (.v (.int .i64 0)), .z], [(0, 34), (3, 35)], 0, .i64⟩,
  ⟨1, 4, 80, [.z, .z, .d (.v (.int .i64 0)), .z], [(0, 34), (3, 35)], 0, .i64⟩,
  .bad,
  .bad,
  .bad,
  .bad,
  .bad,
  .bad,
  .bad,
  .bad,
  .bad,
  .bad,
  .bad,
  .bad,
  .bad,
  .bad,
  ⟨2, 1, 24, [.z], [], 104, .i64⟩,
  ⟨1, 2, 40, [.d (.v (.string ⟨#[]⟩)), .z], [(0, 9), (1, 52)], 0, .i64⟩,
  ⟨1, 2, 40, [.d (.v (.string ⟨#[]⟩)), .z], [(0, 9), (1, 52)], 0, .i64⟩,
  .bad,
  ⟨2, 1, 24, [.z], [], 85, .i64⟩,
  ⟨1, 5, 56, [.d (.v (.int .i64 0)), .d (.v (.int .i64 0)), .d (.v (.bool false)), .d (.v (.int .i64 0)), .z], [(0, 3), (1, 3), (2, 4), (3, 3), (4, 56)], 0, .i64⟩,
  ⟨1, 5, 56, [.d (.v (.int .i64 0)), .d (.v (.int .i64 0)), .d (.v (.bool false)), .d (.v (.int .i64 0)), .z], [(0, 3), (1, 3), (2, 4), (3, 3), (4, 56)], 0, .i64⟩,
  .bad,
  .bad,
  ⟨2, 1, 24, [.z], [], 3, .i64⟩,
  .bad,
  .bad,
  .bad,
  .bad,
  ⟨2, 1, 24, [.z], [], 112, .i64⟩,
  ⟨1, 2, 40, [.d (.v (.string ⟨#[]⟩)), .z], [(0, 9), (1, 66)], 0, .i64⟩,
  ⟨1, 2, 40, [.d (.v (.string ⟨#[]⟩)), .z], [(0, 9), (1, 66)], 0, .i64⟩,
  .bad,
  .bad,
  .bad,
  .bad,
  .bad,
  ⟨1, 2, 24, [.d (.v (.string ⟨#[]⟩)), .d (.v (.int .i64 0))], [(0, 9), (1, 3)], 0, .i64⟩,
  ⟨1, 2, 24, [.d (.v (.string ⟨#[]⟩)), .d (.v (.int .i64 0))], [(0, 9), (1, 3)], 0, .i64⟩,
  .bad,
  ⟨2, 1, 24, [.z], [], 119, .i64⟩,
  ⟨1, 5, 56, [.d (.v (.int .i64 0)), .d (.v (.int .i64 0)), .d (.v (.bool false)), .d (.v (.int .i64 0)), .z], [(0, 3), (1, 3), (2, 4), (3, 3), (4, 77)], 0, .i64⟩,
  ⟨1, 5, 56, [.d (.v (.int .i64 0)), .d (.v (.int .i64 0)), .d (.v (.bool false)), .d (.v (.int .i64 0)), .z], [(0, 3), (1, 3), (2, 4), (3, 3), (4, 77)], 0, .i64⟩,
  .bad,
  .bad,
  ⟨1, 3, 32, [.d (.v (.int .i64 0)), .d (.v (.int .i64 0)), .d (.v (.string ⟨#[]⟩))], [(0, 3), (1, 3), (2, 9)], 0, .i64⟩,
  ⟨1, 3, 32, [.d (.v (.int .i64 0)), .d (.v (.int .i64 0)), .d (.v (.string ⟨#[]⟩))], [(0, 3), (1, 3), (2, 9)], 0, .i64⟩,
  ⟨1, 4, 48, [.d (.v (.string ⟨#[]⟩)), .d (.v (.int .i64 0)), .d (.v (.int .i64 0)), .d (.v (.string ⟨#[]⟩))], [(0, 9), (1, 83)], 0, .i64⟩,
  ⟨1, 4, 48, [.d (.v (.string ⟨#[]⟩)), .d (.v (.int .i64 0)), .d (.v (.int .i64 0)), .d (.v (.string ⟨#[]⟩))], [(0, 9), (1, 83)], 0, .i64⟩,
  .bad,
  ⟨1, 2, 24, [.d (.v (.string ⟨#[]⟩)), .d (.v (.int .i64 0))], [(0, 9), (1, 3)], 0, .i64⟩,
  .bad,
  .bad,
  .bad,
  .bad,
  .bad,
  .bad,
  .bad,
  ⟨2, 1, 24, [.z], [], 9, .i64⟩,
  .bad,
  .bad,
  .bad,
  .bad,
  .bad,
  .bad,
  ⟨1, 3, 32, [.d (.v (.int .i64 0)), .d (.v (.int .i64 0)), .d (.v (.string ⟨#[]⟩))], [(0, 3), (1, 3), (2, 9)], 0, .i64⟩,
  ⟨1, 7, 72, [.d (.v (.int .i64 0)), .d (.v (.int .i64 0)), .d (.v (.int .i64 0)), .d (.v (.string ⟨#[]⟩)), .d (.v (.int .i64 0)), .d (.v (.int .i64 0)), .d (.v (.string ⟨#[]⟩))], [(0, 3), (1, 3), (2, 3), (3, 9), (4, 102)], 0, .i64⟩,
  ⟨1, 7, 72, [.d (.v (.int .i64 0)), .d (.v (.int .i64 0)), .d (.v (.int .i64 0)), .d (.v (.string ⟨#[]⟩)), .d (.v (.int .i64 0)), .d (.v (.int .i64 0)), .d (.v (.string ⟨#[]⟩))], [(0, 3), (1, 3), (2, 3), (3, 9), (4, 102)], 0, .i64⟩,
  .bad,
  .bad,
  .bad,
  .bad,
  .bad,
  .bad,
  ⟨1, 7, 72, [.d (.v (.int .i64 0)), .d (.v (.int .i64 0)), .d (.v (.int .i64 0)), .d (.v (.string ⟨#[]⟩)), .d (.v (.int .i64 0)), .d (.v (.int .i64 0)), .d (.v (.string ⟨#[]⟩))], [(0, 3), (1, 3), (2, 3), (3, 9), (4, 83)], 0, .i64⟩,
  ⟨1, 7, 72, [.d (.v (.int .i64 0)), .d (.v (.int .i64 0)), .d (.v (.int .i64 0)), .d (.v (.string ⟨#[]⟩)), .d (.v (.int .i64 0)), .d (.v (.int .i64 0)), .d (.v (.string ⟨#[]⟩))], [(0, 3), (1, 3), (2, 3), (3, 9), (4, 83)], 0, .i64⟩,
  .bad,
  .bad,
  .bad,
  .bad,
  .bad,
  ⟨1, 4, 48, [.d (.v (.string ⟨#[]⟩)), .d (.v (.int .i64 0)), .d (.v (.int .i64 0)), .d (.v (.string ⟨#[]⟩))], [(0, 9), (1, 102)], 0, .i64⟩,
  ⟨1, 4, 48, [.d (.v (.string ⟨#[]⟩)), .d (.v (.int .i64 0)), .d (.v (.int .i64 0)), .d (.v (.string ⟨#[]⟩))], [(0, 9), (1, 102)], 0, .i64⟩,
  .bad,
  .bad,
  .bad,
  .bad,
  .bad,
  .bad,
  .bad,
  ⟨2, 1, 24, [.z], [], 4, .i64⟩,
  .bad,
  .bad,
  .bad,
  .bad,
  .bad,
  .bad,
  .bad,
  .bad,
  .bad,
  .bad,
  .bad,
  ⟨3, 1, 8, [.d (.v (.int .i64 0))], [], 0, .i64⟩,
  .bad,
  .bad,
  .bad,
  .bad,
  .bad,
  .bad,
  .bad,
  .bad,
  .bad,
  .bad,
  .bad,
  .bad,
  .bad,
  .bad,
  .bad,
  .bad,
  .bad,
  .bad,
  .bad,
  .bad,
  .bad,
  .bad,
  .bad,
  .bad,
  .bad,
  .bad,
  .bad,
  ⟨3, 1, 1, [.d (.v (.int .u8 0))], [], 0, .u8⟩,
  ⟨3, 1, 1, [.d (.v (.int .u8 0))], [], 0, .u8⟩,
  .bad,
  .bad,
  .bad,
  .bad,
  .bad,
  .bad,
  .bad]
noncomputable def tt : Nat → Ty := fun t => ttl.getD t .bad
theorem ttOK : TyOK Tryz.prog tt := TyOK.of_list (by kernel_rfl)
theorem tts : tt 2 = ⟨3, 1, 8, [.d (.v (.int .i64 0))], [], 0, .i64⟩ ∧ tt 3 = ⟨3, 1, 8, [.d (.v (.int .i64 0))], [], 0, .i64⟩ ∧ tt 4 = ⟨4, 1, 1, [.d (.v (.bool false))], [], 0, .i64⟩ ∧ tt 5 = ⟨3, 1, 1, [.d (.v (.int .u8 0))], [], 0, .u8⟩ ∧ tt 6 = ⟨3, 1, 1, [.d (.v (.int .u8 0))], [], 0, .u8⟩ ∧ tt 7 = ⟨1, 4, 24, [.d (.v (.int .i64 0)), .d (.v (.int .i64 0)), .d (.v (.bool false)), .d (.v (.int .u8 0))], [(0, 2), (1, 3), (2, 4), (3, 6)], 0, .i64⟩ ∧ tt 8 = ⟨1, 4, 24, [.d (.v (.int .i64 0)), .d (.v (.int .i64 0)), .d (.v (.bool false)), .d (.v (.int .u8 0))], [(0, 2), (1, 3), (2, 4), (3, 6)], 0, .i64⟩ ∧ tt 9 = ⟨5, 1, 16, [.d (.v (.string ⟨#[]⟩))], [], 0, .i64⟩ ∧ tt 10 = ⟨5, 1, 16, [.d (.v (.string ⟨#[]⟩))], [], 0, .i64⟩ ∧ tt 11 = ⟨5, 1, 16, [.d (.v (.string ⟨#[]⟩))], [], 0, .i64⟩ ∧ tt 22 = ⟨2, 1, 24, [.z], [], 75, .i64⟩ ∧ tt 23 = ⟨2, 1, 24, [.z], [], 79, .i64⟩ ∧ tt 24 = ⟨1, 3, 56, [.z, .z, .d (.v (.int .i64 0))], [(0, 22), (1, 23), (2, 3)], 0, .i64⟩ ∧ tt 25 = ⟨1, 3, 56, [.z, .z, .d (.v (.int .i64 0))], [(0, 22), (1, 23), (2, 3)], 0, .i64⟩ ∧ tt 26 = ⟨2, 1, 24, [.z], [], 54, .i64⟩ ∧ tt 27 = ⟨1, 4, 80, [.z, .z, .d (.v (.int .i64 0)), .z], [(0, 25), (3, 26)], 0, .i64⟩ ∧ tt 28 = ⟨1, 4, 80, [.z, .z, .d (.v (.int .i64 0)), .z], [(0, 25), (3, 26)], 0, .i64⟩ ∧ tt 31 = ⟨2, 1, 24, [.z], [], 87, .i64⟩ ∧ tt 32 = ⟨2, 1, 24, [.z], [], 58, .i64⟩ ∧ tt 33 = ⟨1, 3, 56, [.z, .z, .d (.v (.int .i64 0))], [(0, 31), (1, 32), (2, 3)], 0, .i64⟩ ∧ tt 34 = ⟨1, 3, 56, [.z, .z, .d (.v (.int .i64 0))], [(0, 31), (1, 32), (2, 3)], 0, .i64⟩ ∧ tt 35 = ⟨2, 1, 24, [.z], [], 68, .i64⟩ ∧ tt 36 = ⟨1, 4, 80, [.z, .z, .d (.v (.int .i64 0)), .z], [(0, 34), (3, 35)], 0, .i64⟩ ∧ tt 37 = ⟨1, 4, 80, [.z, .z, .d (.v (.int .i64 0)), .z], [(0, 34), (3, 35)], 0, .i64⟩ ∧ tt 52 = ⟨2, 1, 24, [.z], [], 104, .i64⟩ ∧ tt 53 = ⟨1, 2, 40, [.d (.v (.string ⟨#[]⟩)), .z], [(0, 9), (1, 52)], 0, .i64⟩ ∧ tt 54 = ⟨1, 2, 40, [.d (.v (.string ⟨#[]⟩)), .z], [(0, 9), (1, 52)], 0, .i64⟩ ∧ tt 56 = ⟨2, 1, 24, [.z], [], 85, .i64⟩ ∧ tt 57 = ⟨1, 5, 56, [.d (.v (.int .i64 0)), .d (.v (.int .i64 0)), .d (.v (.bool false)), .d (.v (.int .i64 0)), .z], [(0, 3), (1, 3), (2, 4), (3, 3), (4, 56)], 0, .i64⟩ ∧ tt 58 = ⟨1, 5, 56, [.d (.v (.int .i64 0)), .d (.v (.int .i64 0)), .d (.v (.bool false)), .d (.v (.int .i64 0)), .z], [(0, 3), (1, 3), (2, 4), (3, 3), (4, 56)], 0, .i64⟩ ∧ tt 61 = ⟨2, 1, 24, [.z], [], 3, .i64⟩ ∧ tt 66 = ⟨2, 1, 24, [.z], [], 112, .i64⟩ ∧ tt 67 = ⟨1, 2, 40, [.d (.v (.string ⟨#[]⟩)), .z], [(0, 9), (1, 66)], 0, .i64⟩ ∧ tt 68 = ⟨1, 2, 40, [.d (.v (.string ⟨#[]⟩)), .z], [(0, 9), (1, 66)], 0, .i64⟩ ∧ tt 74 = ⟨1, 2, 24, [.d (.v (.string ⟨#[]⟩)), .d (.v (.int .i64 0))], [(0, 9), (1, 3)], 0, .i64⟩ ∧ tt 75 = ⟨1, 2, 24, [.d (.v (.string ⟨#[]⟩)), .d (.v (.int .i64 0))], [(0, 9), (1, 3)], 0, .i64⟩ ∧ tt 77 = ⟨2, 1, 24, [.z], [], 119, .i64⟩ ∧ tt 78 = ⟨1, 5, 56, [.d (.v (.int .i64 0)), .d (.v (.int .i64 0)), .d (.v (.bool false)), .d (.v (.int .i64 0)), .z], [(0, 3), (1, 3), (2, 4), (3, 3), (4, 77)], 0, .i64⟩ ∧ tt 79 = ⟨1, 5, 56, [.d (.v (.int .i64 0)), .d (.v (.int .i64 0)), .d (.v (.bool false)), .d (.v (.int .i64 0)), .z], [(0, 3), (1, 3), (2, 4), (3, 3), (4, 77)], 0, .i64⟩ ∧ tt 82 = ⟨1, 3, 32, [.d (.v (.int .i64 0)), .d (.v (.int .i64 0)), .d (.v (.string ⟨#[]⟩))], [(0, 3), (1, 3), (2, 9)], 0, .i64⟩ ∧ tt 83 = ⟨1, 3, 32, [.d (.v (.int .i64 0)), .d (.v (.int .i64 0)), .d (.v (.string ⟨#[]⟩))], [(0, 3), (1, 3), (2, 9)], 0, .i64⟩ ∧ tt 84 = ⟨1, 4, 48, [.d (.v (.string ⟨#[]⟩)), .d (.v (.int .i64 0)), .d (.v (.int .i64 0)), .d (.v (.string ⟨#[]⟩))], [(0, 9), (1, 83)], 0, .i64⟩ ∧ tt 85 = ⟨1, 4, 48, [.d (.v (.string ⟨#[]⟩)), .d (.v (.int .i64 0)), .d (.v (.int .i64 0)), .d (.v (.string ⟨#[]⟩))], [(0, 9), (1, 83)], 0, .i64⟩ ∧ tt 87 = ⟨1, 2, 24, [.d (.v (.string ⟨#[]⟩)), .d (.v (.int .i64 0))], [(0, 9), (1, 3)], 0, .i64⟩ ∧ tt 95 = ⟨2, 1, 24, [.z], [], 9, .i64⟩ ∧ tt 102 = ⟨1, 3, 32, [.d (.v (.int .i64 0)), .d (.v (.int .i64 0)), .d (.v (.string ⟨#[]⟩))], [(0, 3), (1, 3), (2, 9)], 0, .i64⟩ ∧ tt 103 = ⟨1, 7, 72, [.d (.v (.int .i64 0)), .d (.v (.int .i64 0)), .d (.v (.int .i64 0)), .d (.v (.string ⟨#[]⟩)), .d (.v (.int .i64 0)), .d (.v (.int .i64 0)), .d (.v (.string ⟨#[]⟩))], [(0, 3), (1, 3), (2, 3), (3, 9), (4, 102)], 0, .i64⟩ ∧ tt 104 = ⟨1, 7, 72, [.d (.v (.int .i64 0)), .d (.v (.int .i64 0)), .d (.v (.int .i64 0)), .d (.v (.string ⟨#[]⟩)), .d (.v (.int .i64 0)), .d (.v (.int .i64 0)), .d (.v (.string ⟨#[]⟩))], [(0, 3), (1, 3), (2, 3), (3, 9), (4, 102)], 0, .i64⟩ ∧ tt 111 = ⟨1, 7, 72, [.d (.v (.int .i64 0)), .d (.v (.int .i64 0)), .d (.v (.int .i64 0)), .d (.v (.string ⟨#[]⟩)), .d (.v (.int .i64 0)), .d (.v (.int .i64 0)), .d (.v (.string ⟨#[]⟩))], [(0, 3), (1, 3), (2, 3), (3, 9), (4, 83)], 0, .i64⟩ ∧ tt 112 = ⟨1, 7, 72, [.d (.v (.int .i64 0)), .d (.v (.int .i64 0)), .d (.v (.int .i64 0)), .d (.v (.string ⟨#[]⟩)), .d (.v (.int .i64 0)), .d (.v (.int .i64 0)), .d (.v (.string ⟨#[]⟩))], [(0, 3), (1, 3), (2, 3), (3, 9), (4, 83)], 0, .i64⟩ ∧ tt 118 = ⟨1, 4, 48, [.d (.v (.string ⟨#[]⟩)), .d (.v (.int .i64 0)), .d (.v (.int .i64 0)), .d (.v (.string ⟨#[]⟩))], [(0, 9), (1, 102)], 0, .i64⟩ ∧ tt 119 = ⟨1, 4, 48, [.d (.v (.string ⟨#[]⟩)), .d (.v (.int .i64 0)), .d (.v (.int .i64 0)), .d (.v (.string ⟨#[]⟩))], [(0, 9), (1, 102)], 0, .i64⟩ ∧ tt 127 = ⟨2, 1, 24, [.z], [], 4, .i64⟩ ∧ tt 139 = ⟨3, 1, 8, [.d (.v (.int .i64 0))], [], 0, .i64⟩ ∧ tt 167 = ⟨3, 1, 1, [.d (.v (.int .u8 0))], [], 0, .u8⟩ ∧ tt 168 = ⟨3, 1, 1, [.d (.v (.int .u8 0))], [], 0, .u8⟩ :=
  ⟨rfl, rfl, rfl, rfl, rfl, rfl, rfl, rfl, rfl, rfl, rfl, rfl, rfl, rfl, rfl, rfl, rfl, rfl, rfl, rfl, rfl, rfl, rfl, rfl, rfl, rfl, rfl, rfl, rfl, rfl, rfl, rfl, rfl, rfl, rfl, rfl, rfl, rfl, rfl, rfl, rfl, rfl, rfl, rfl, rfl, rfl, rfl, rfl, rfl, rfl, rfl, rfl, rfl, rfl, rfl, rfl⟩
def eqk : Nat → List Nat := fun t => if t = 75 then [3, 1] else if t = 83 then [1, 1, 3] else if t = 85 then [3, 1, 1, 3] else if t = 87 then [3, 1] else if t = 102 then [1, 1, 3] else if t = 104 then [1, 1, 1, 3, 1, 1, 3] else if t = 112 then [1, 1, 1, 3, 1, 1, 3] else if t = 119 then [3, 1, 1, 3] else []
theorem kind1_inv {v : Value} (h : kindV v = 1) : ∃ x : Int, v = .int .i64 x := by
  cases v with
  | int k n => cases k <;> simp_all [kindV]
  | _ => simp_all [kindV]
theorem kind3_inv {v : Value} (h : kindV v = 3) : ∃ x : ByteArray, v = .string x := by
  cases v with
  | int k n => cases k <;> simp_all [kindV]
  | _ => simp_all [kindV]
theorem kinds75 {xs : List Value} (h : xs.map kindV = [3, 1]) : ∃ (x0 : ByteArray) (x1 : Int), xs = [.string x0, .int .i64 x1] := by
  obtain ⟨v0, xs, rfl⟩ : ∃ v l, xs = v :: l := by cases xs with
    | nil => simp at h
    | cons v l => exact ⟨v, l, rfl⟩
  simp only [List.map_cons, List.cons.injEq] at h
  obtain ⟨h0, h⟩ := h
  obtain ⟨v1, xs, rfl⟩ : ∃ v l, xs = v :: l := by cases xs with
    | nil => simp at h
    | cons v l => exact ⟨v, l, rfl⟩
  simp only [List.map_cons, List.cons.injEq] at h
  obtain ⟨h1, h⟩ := h
  have : xs = [] := by simpa using h
  subst this
  obtain ⟨x0, rfl⟩ := kind3_inv h0
  obtain ⟨x1, rfl⟩ := kind1_inv h1
  exact ⟨x0, x1, rfl⟩
theorem kinds83 {xs : List Value} (h : xs.map kindV = [1, 1, 3]) : ∃ (x0 : Int) (x1 : Int) (x2 : ByteArray), xs = [.int .i64 x0, .int .i64 x1, .string x2] := by
  obtain ⟨v0, xs, rfl⟩ : ∃ v l, xs = v :: l := by cases xs with
    | nil => simp at h
    | cons v l => exact ⟨v, l, rfl⟩
  simp only [List.map_cons, List.cons.injEq] at h
  obtain ⟨h0, h⟩ := h
  obtain ⟨v1, xs, rfl⟩ : ∃ v l, xs = v :: l := by cases xs with
    | nil => simp at h
    | cons v l => exact ⟨v, l, rfl⟩
  simp only [List.map_cons, List.cons.injEq] at h
  obtain ⟨h1, h⟩ := h
  obtain ⟨v2, xs, rfl⟩ : ∃ v l, xs = v :: l := by cases xs with
    | nil => simp at h
    | cons v l => exact ⟨v, l, rfl⟩
  simp only [List.map_cons, List.cons.injEq] at h
  obtain ⟨h2, h⟩ := h
  have : xs = [] := by simpa using h
  subst this
  obtain ⟨x0, rfl⟩ := kind1_inv h0
  obtain ⟨x1, rfl⟩ := kind1_inv h1
  obtain ⟨x2, rfl⟩ := kind3_inv h2
  exact ⟨x0, x1, x2, rfl⟩
theorem kinds85 {xs : List Value} (h : xs.map kindV = [3, 1, 1, 3]) : ∃ (x0 : ByteArray) (x1 : Int) (x2 : Int) (x3 : ByteArray), xs = [.string x0, .int .i64 x1, .int .i64 x2, .string x3] := by
  obtain ⟨v0, xs, rfl⟩ : ∃ v l, xs = v :: l := by cases xs with
    | nil => simp at h
    | cons v l => exact ⟨v, l, rfl⟩
  simp only [List.map_cons, List.cons.injEq] at h
  obtain ⟨h0, h⟩ := h
  obtain ⟨v1, xs, rfl⟩ : ∃ v l, xs = v :: l := by cases xs with
    | nil => simp at h
    | cons v l => exact ⟨v, l, rfl⟩
  simp only [List.map_cons, List.cons.injEq] at h
  obtain ⟨h1, h⟩ := h
  obtain ⟨v2, xs, rfl⟩ : ∃ v l, xs = v :: l := by cases xs with
    | nil => simp at h
    | cons v l => exact ⟨v, l, rfl⟩
  simp only [List.map_cons, List.cons.injEq] at h
  obtain ⟨h2, h⟩ := h
  obtain ⟨v3, xs, rfl⟩ : ∃ v l, xs = v :: l := by cases xs with
    | nil => simp at h
    | cons v l => exact ⟨v, l, rfl⟩
  simp only [List.map_cons, List.cons.injEq] at h
  obtain ⟨h3, h⟩ := h
  have : xs = [] := by simpa using h
  subst this
  obtain ⟨x0, rfl⟩ := kind3_inv h0
  obtain ⟨x1, rfl⟩ := kind1_inv h1
  obtain ⟨x2, rfl⟩ := kind1_inv h2
  obtain ⟨x3, rfl⟩ := kind3_inv h3
  exact ⟨x0, x1, x2, x3, rfl⟩
theorem kinds87 {xs : List Value} (h : xs.map kindV = [3, 1]) : ∃ (x0 : ByteArray) (x1 : Int), xs = [.string x0, .int .i64 x1] := by
  obtain ⟨v0, xs, rfl⟩ : ∃ v l, xs = v :: l := by cases xs with
    | nil => simp at h
    | cons v l => exact ⟨v, l, rfl⟩
  simp only [List.map_cons, List.cons.injEq] at h
  obtain ⟨h0, h⟩ := h
  obtain ⟨v1, xs, rfl⟩ : ∃ v l, xs = v :: l := by cases xs with
    | nil => simp at h
    | cons v l => exact ⟨v, l, rfl⟩
  simp only [List.map_cons, List.cons.injEq] at h
  obtain ⟨h1, h⟩ := h
  have : xs = [] := by simpa using h
  subst this
  obtain ⟨x0, rfl⟩ := kind3_inv h0
  obtain ⟨x1, rfl⟩ := kind1_inv h1
  exact ⟨x0, x1, rfl⟩
theorem kinds102 {xs : List Value} (h : xs.map kindV = [1, 1, 3]) : ∃ (x0 : Int) (x1 : Int) (x2 : ByteArray), xs = [.int .i64 x0, .int .i64 x1, .string x2] := by
  obtain ⟨v0, xs, rfl⟩ : ∃ v l, xs = v :: l := by cases xs with
    | nil => simp at h
    | cons v l => exact ⟨v, l, rfl⟩
  simp only [List.map_cons, List.cons.injEq] at h
  obtain ⟨h0, h⟩ := h
  obtain ⟨v1, xs, rfl⟩ : ∃ v l, xs = v :: l := by cases xs with
    | nil => simp at h
    | cons v l => exact ⟨v, l, rfl⟩
  simp only [List.map_cons, List.cons.injEq] at h
  obtain ⟨h1, h⟩ := h
  obtain ⟨v2, xs, rfl⟩ : ∃ v l, xs = v :: l := by cases xs with
    | nil => simp at h
    | cons v l => exact ⟨v, l, rfl⟩
  simp only [List.map_cons, List.cons.injEq] at h
  obtain ⟨h2, h⟩ := h
  have : xs = [] := by simpa using h
  subst this
  obtain ⟨x0, rfl⟩ := kind1_inv h0
  obtain ⟨x1, rfl⟩ := kind1_inv h1
  obtain ⟨x2, rfl⟩ := kind3_inv h2
  exact ⟨x0, x1, x2, rfl⟩
theorem kinds104 {xs : List Value} (h : xs.map kindV = [1, 1, 1, 3, 1, 1, 3]) : ∃ (x0 : Int) (x1 : Int) (x2 : Int) (x3 : ByteArray) (x4 : Int) (x5 : Int) (x6 : ByteArray), xs = [.int .i64 x0, .int .i64 x1, .int .i64 x2, .string x3, .int .i64 x4, .int .i64 x5, .string x6] := by
  obtain ⟨v0, xs, rfl⟩ : ∃ v l, xs = v :: l := by cases xs with
    | nil => simp at h
    | cons v l => exact ⟨v, l, rfl⟩
  simp only [List.map_cons, List.cons.injEq] at h
  obtain ⟨h0, h⟩ := h
  obtain ⟨v1, xs, rfl⟩ : ∃ v l, xs = v :: l := by cases xs with
    | nil => simp at h
    | cons v l => exact ⟨v, l, rfl⟩
  simp only [List.map_cons, List.cons.injEq] at h
  obtain ⟨h1, h⟩ := h
  obtain ⟨v2, xs, rfl⟩ : ∃ v l, xs = v :: l := by cases xs with
    | nil => simp at h
    | cons v l => exact ⟨v, l, rfl⟩
  simp only [List.map_cons, List.cons.injEq] at h
  obtain ⟨h2, h⟩ := h
  obtain ⟨v3, xs, rfl⟩ : ∃ v l, xs = v :: l := by cases xs with
    | nil => simp at h
    | cons v l => exact ⟨v, l, rfl⟩
  simp only [List.map_cons, List.cons.injEq] at h
  obtain ⟨h3, h⟩ := h
  obtain ⟨v4, xs, rfl⟩ : ∃ v l, xs = v :: l := by cases xs with
    | nil => simp at h
    | cons v l => exact ⟨v, l, rfl⟩
  simp only [List.map_cons, List.cons.injEq] at h
  obtain ⟨h4, h⟩ := h
  obtain ⟨v5, xs, rfl⟩ : ∃ v l, xs = v :: l := by cases xs with
    | nil => simp at h
    | cons v l => exact ⟨v, l, rfl⟩
  simp only [List.map_cons, List.cons.injEq] at h
  obtain ⟨h5, h⟩ := h
  obtain ⟨v6, xs, rfl⟩ : ∃ v l, xs = v :: l := by cases xs with
    | nil => simp at h
    | cons v l => exact ⟨v, l, rfl⟩
  simp only [List.map_cons, List.cons.injEq] at h
  obtain ⟨h6, h⟩ := h
  have : xs = [] := by simpa using h
  subst this
  obtain ⟨x0, rfl⟩ := kind1_inv h0
  obtain ⟨x1, rfl⟩ := kind1_inv h1
  obtain ⟨x2, rfl⟩ := kind1_inv h2
  obtain ⟨x3, rfl⟩ := kind3_inv h3
  obtain ⟨x4, rfl⟩ := kind1_inv h4
  obtain ⟨x5, rfl⟩ := kind1_inv h5
  obtain ⟨x6, rfl⟩ := kind3_inv h6
  exact ⟨x0, x1, x2, x3, x4, x5, x6, rfl⟩
theorem kinds112 {xs : List Value} (h : xs.map kindV = [1, 1, 1, 3, 1, 1, 3]) : ∃ (x0 : Int) (x1 : Int) (x2 : Int) (x3 : ByteArray) (x4 : Int) (x5 : Int) (x6 : ByteArray), xs = [.int .i64 x0, .int .i64 x1, .int .i64 x2, .string x3, .int .i64 x4, .int .i64 x5, .string x6] := by
  obtain ⟨v0, xs, rfl⟩ : ∃ v l, xs = v :: l := by cases xs with
    | nil => simp at h
    | cons v l => exact ⟨v, l, rfl⟩
  simp only [List.map_cons, List.cons.injEq] at h
  obtain ⟨h0, h⟩ := h
  obtain ⟨v1, xs, rfl⟩ : ∃ v l, xs = v :: l := by cases xs with
    | nil => simp at h
    | cons v l => exact ⟨v, l, rfl⟩
  simp only [List.map_cons, List.cons.injEq] at h
  obtain ⟨h1, h⟩ := h
  obtain ⟨v2, xs, rfl⟩ : ∃ v l, xs = v :: l := by cases xs with
    | nil => simp at h
    | cons v l => exact ⟨v, l, rfl⟩
  simp only [List.map_cons, List.cons.injEq] at h
  obtain ⟨h2, h⟩ := h
  obtain ⟨v3, xs, rfl⟩ : ∃ v l, xs = v :: l := by cases xs with
    | nil => simp at h
    | cons v l => exact ⟨v, l, rfl⟩
  simp only [List.map_cons, List.cons.injEq] at h
  obtain ⟨h3, h⟩ := h
  obtain ⟨v4, xs, rfl⟩ : ∃ v l, xs = v :: l := by cases xs with
    | nil => simp at h
    | cons v l => exact ⟨v, l, rfl⟩
  simp only [List.map_cons, List.cons.injEq] at h
  obtain ⟨h4, h⟩ := h
  obtain ⟨v5, xs, rfl⟩ : ∃ v l, xs = v :: l := by cases xs with
    | nil => simp at h
    | cons v l => exact ⟨v, l, rfl⟩
  simp only [List.map_cons, List.cons.injEq] at h
  obtain ⟨h5, h⟩ := h
  obtain ⟨v6, xs, rfl⟩ : ∃ v l, xs = v :: l := by cases xs with
    | nil => simp at h
    | cons v l => exact ⟨v, l, rfl⟩
  simp only [List.map_cons, List.cons.injEq] at h
  obtain ⟨h6, h⟩ := h
  have : xs = [] := by simpa using h
  subst this
  obtain ⟨x0, rfl⟩ := kind1_inv h0
  obtain ⟨x1, rfl⟩ := kind1_inv h1
  obtain ⟨x2, rfl⟩ := kind1_inv h2
  obtain ⟨x3, rfl⟩ := kind3_inv h3
  obtain ⟨x4, rfl⟩ := kind1_inv h4
  obtain ⟨x5, rfl⟩ := kind1_inv h5
  obtain ⟨x6, rfl⟩ := kind3_inv h6
  exact ⟨x0, x1, x2, x3, x4, x5, x6, rfl⟩
theorem kinds119 {xs : List Value} (h : xs.map kindV = [3, 1, 1, 3]) : ∃ (x0 : ByteArray) (x1 : Int) (x2 : Int) (x3 : ByteArray), xs = [.string x0, .int .i64 x1, .int .i64 x2, .string x3] := by
  obtain ⟨v0, xs, rfl⟩ : ∃ v l, xs = v :: l := by cases xs with
    | nil => simp at h
    | cons v l => exact ⟨v, l, rfl⟩
  simp only [List.map_cons, List.cons.injEq] at h
  obtain ⟨h0, h⟩ := h
  obtain ⟨v1, xs, rfl⟩ : ∃ v l, xs = v :: l := by cases xs with
    | nil => simp at h
    | cons v l => exact ⟨v, l, rfl⟩
  simp only [List.map_cons, List.cons.injEq] at h
  obtain ⟨h1, h⟩ := h
  obtain ⟨v2, xs, rfl⟩ : ∃ v l, xs = v :: l := by cases xs with
    | nil => simp at h
    | cons v l => exact ⟨v, l, rfl⟩
  simp only [List.map_cons, List.cons.injEq] at h
  obtain ⟨h2, h⟩ := h
  obtain ⟨v3, xs, rfl⟩ : ∃ v l, xs = v :: l := by cases xs with
    | nil => simp at h
    | cons v l => exact ⟨v, l, rfl⟩
  simp only [List.map_cons, List.cons.injEq] at h
  obtain ⟨h3, h⟩ := h
  have : xs = [] := by simpa using h
  subst this
  obtain ⟨x0, rfl⟩ := kind3_inv h0
  obtain ⟨x1, rfl⟩ := kind1_inv h1
  obtain ⟨x2, rfl⟩ := kind1_inv h2
  obtain ⟨x3, rfl⟩ := kind3_inv h3
  exact ⟨x0, x1, x2, x3, rfl⟩
set_option maxHeartbeats 1000000 in
theorem eqT75 : EqT Tryz.prog 75 [3, 1] := by
  refine ⟨by decide, fun w xs ys hx hy => ?_, fun w xs ys hx hy => ?_, fun op x y xs ys w => run_eqGuard_agg w op 75 x y xs ys Tryz.eqGuardType75⟩
  · obtain ⟨x0, x1, hx⟩ := kinds75 hx
    obtain ⟨y0, y1, hy⟩ := kinds75 hy
    subst hx; subst hy
    simp [go_sem, eqVs, eqV, beq_int, beq_bytes]
    (repeat' split) <;> simp_all
  · obtain ⟨x0, x1, hx⟩ := kinds75 hx
    obtain ⟨y0, y1, hy⟩ := kinds75 hy
    subst hx; subst hy
    simp [go_sem, eqVs, eqV, beq_int, beq_bytes]
    (repeat' split) <;> simp_all
set_option maxHeartbeats 1000000 in
theorem eqT83 : EqT Tryz.prog 83 [1, 1, 3] := by
  refine ⟨by decide, fun w xs ys hx hy => ?_, fun w xs ys hx hy => ?_, fun op x y xs ys w => run_eqGuard_agg w op 83 x y xs ys Tryz.eqGuardType83⟩
  · obtain ⟨x0, x1, x2, hx⟩ := kinds83 hx
    obtain ⟨y0, y1, y2, hy⟩ := kinds83 hy
    subst hx; subst hy
    simp [go_sem, eqVs, eqV, beq_int, beq_bytes]
    (repeat' split) <;> simp_all
  · obtain ⟨x0, x1, x2, hx⟩ := kinds83 hx
    obtain ⟨y0, y1, y2, hy⟩ := kinds83 hy
    subst hx; subst hy
    simp [go_sem, eqVs, eqV, beq_int, beq_bytes]
    (repeat' split) <;> simp_all
set_option maxHeartbeats 1000000 in
theorem eqT85 : EqT Tryz.prog 85 [3, 1, 1, 3] := by
  refine ⟨by decide, fun w xs ys hx hy => ?_, fun w xs ys hx hy => ?_, fun op x y xs ys w => run_eqGuard_agg w op 85 x y xs ys Tryz.eqGuardType85⟩
  · obtain ⟨x0, x1, x2, x3, hx⟩ := kinds85 hx
    obtain ⟨y0, y1, y2, y3, hy⟩ := kinds85 hy
    subst hx; subst hy
    simp [go_sem, eqVs, eqV, beq_int, beq_bytes]
    (repeat' split) <;> simp_all
  · obtain ⟨x0, x1, x2, x3, hx⟩ := kinds85 hx
    obtain ⟨y0, y1, y2, y3, hy⟩ := kinds85 hy
    subst hx; subst hy
    simp [go_sem, eqVs, eqV, beq_int, beq_bytes]
    (repeat' split) <;> simp_all
set_option maxHeartbeats 1000000 in
theorem eqT87 : EqT Tryz.prog 87 [3, 1] := by
  refine ⟨by decide, fun w xs ys hx hy => ?_, fun w xs ys hx hy => ?_, fun op x y xs ys w => run_eqGuard_agg w op 87 x y xs ys Tryz.eqGuardType87⟩
  · obtain ⟨x0, x1, hx⟩ := kinds87 hx
    obtain ⟨y0, y1, hy⟩ := kinds87 hy
    subst hx; subst hy
    simp [go_sem, eqVs, eqV, beq_int, beq_bytes]
    (repeat' split) <;> simp_all
  · obtain ⟨x0, x1, hx⟩ := kinds87 hx
    obtain ⟨y0, y1, hy⟩ := kinds87 hy
    subst hx; subst hy
    simp [go_sem, eqVs, eqV, beq_int, beq_bytes]
    (repeat' split) <;> simp_all
set_option maxHeartbeats 1000000 in
theorem eqT102 : EqT Tryz.prog 102 [1, 1, 3] := by
  refine ⟨by decide, fun w xs ys hx hy => ?_, fun w xs ys hx hy => ?_, fun op x y xs ys w => run_eqGuard_agg w op 102 x y xs ys Tryz.eqGuardType102⟩
  · obtain ⟨x0, x1, x2, hx⟩ := kinds102 hx
    obtain ⟨y0, y1, y2, hy⟩ := kinds102 hy
    subst hx; subst hy
    simp [go_sem, eqVs, eqV, beq_int, beq_bytes]
    (repeat' split) <;> simp_all
  · obtain ⟨x0, x1, x2, hx⟩ := kinds102 hx
    obtain ⟨y0, y1, y2, hy⟩ := kinds102 hy
    subst hx; subst hy
    simp [go_sem, eqVs, eqV, beq_int, beq_bytes]
    (repeat' split) <;> simp_all
set_option maxHeartbeats 1000000 in
theorem eqT104 : EqT Tryz.prog 104 [1, 1, 1, 3, 1, 1, 3] := by
  refine ⟨by decide, fun w xs ys hx hy => ?_, fun w xs ys hx hy => ?_, fun op x y xs ys w => run_eqGuard_agg w op 104 x y xs ys Tryz.eqGuardType104⟩
  · obtain ⟨x0, x1, x2, x3, x4, x5, x6, hx⟩ := kinds104 hx
    obtain ⟨y0, y1, y2, y3, y4, y5, y6, hy⟩ := kinds104 hy
    subst hx; subst hy
    simp [go_sem, eqVs, eqV, beq_int, beq_bytes]
    (repeat' split) <;> simp_all
  · obtain ⟨x0, x1, x2, x3, x4, x5, x6, hx⟩ := kinds104 hx
    obtain ⟨y0, y1, y2, y3, y4, y5, y6, hy⟩ := kinds104 hy
    subst hx; subst hy
    simp [go_sem, eqVs, eqV, beq_int, beq_bytes]
    (repeat' split) <;> simp_all
set_option maxHeartbeats 1000000 in
theorem eqT112 : EqT Tryz.prog 112 [1, 1, 1, 3, 1, 1, 3] := by
  refine ⟨by decide, fun w xs ys hx hy => ?_, fun w xs ys hx hy => ?_, fun op x y xs ys w => run_eqGuard_agg w op 112 x y xs ys Tryz.eqGuardType112⟩
  · obtain ⟨x0, x1, x2, x3, x4, x5, x6, hx⟩ := kinds112 hx
    obtain ⟨y0, y1, y2, y3, y4, y5, y6, hy⟩ := kinds112 hy
    subst hx; subst hy
    simp [go_sem, eqVs, eqV, beq_int, beq_bytes]
    (repeat' split) <;> simp_all
  · obtain ⟨x0, x1, x2, x3, x4, x5, x6, hx⟩ := kinds112 hx
    obtain ⟨y0, y1, y2, y3, y4, y5, y6, hy⟩ := kinds112 hy
    subst hx; subst hy
    simp [go_sem, eqVs, eqV, beq_int, beq_bytes]
    (repeat' split) <;> simp_all
set_option maxHeartbeats 1000000 in
theorem eqT119 : EqT Tryz.prog 119 [3, 1, 1, 3] := by
  refine ⟨by decide, fun w xs ys hx hy => ?_, fun w xs ys hx hy => ?_, fun op x y xs ys w => run_eqGuard_agg w op 119 x y xs ys Tryz.eqGuardType119⟩
  · obtain ⟨x0, x1, x2, x3, hx⟩ := kinds119 hx
    obtain ⟨y0, y1, y2, y3, hy⟩ := kinds119 hy
    subst hx; subst hy
    simp [go_sem, eqVs, eqV, beq_int, beq_bytes]
    (repeat' split) <;> simp_all
  · obtain ⟨x0, x1, x2, x3, hx⟩ := kinds119 hx
    obtain ⟨y0, y1, y2, y3, hy⟩ := kinds119 hy
    subst hx; subst hy
    simp [go_sem, eqVs, eqV, beq_int, beq_bytes]
    (repeat' split) <;> simp_all
theorem eqOK : ∀ t, eqk t ≠ [] → EqT Tryz.prog t (eqk t) := by
  intro t h
  unfold eqk at h ⊢
  by_cases e75 : t = 75
  · subst e75; exact eqT75
  simp only [e75, if_false] at h ⊢
  by_cases e83 : t = 83
  · subst e83; exact eqT83
  simp only [e83, if_false] at h ⊢
  by_cases e85 : t = 85
  · subst e85; exact eqT85
  simp only [e85, if_false] at h ⊢
  by_cases e87 : t = 87
  · subst e87; exact eqT87
  simp only [e87, if_false] at h ⊢
  by_cases e102 : t = 102
  · subst e102; exact eqT102
  simp only [e102, if_false] at h ⊢
  by_cases e104 : t = 104
  · subst e104; exact eqT104
  simp only [e104, if_false] at h ⊢
  by_cases e112 : t = 112
  · subst e112; exact eqT112
  simp only [e112, if_false] at h ⊢
  by_cases e119 : t = 119
  · subst e119; exact eqT119
  simp only [e119, if_false] at h ⊢
  exact (h rfl).elim
noncomputable def EV (C : Ctx) : Env := ⟨Tryz.prog, tt, C, eqk⟩
theorem EV_T (C : Ctx) : (EV C).T = tt := rfl
theorem EV_q (C : Ctx) : (EV C).eqk = eqk := rfl
attribute [go_sem] tts EV_T EV_q eqk
theorem reg {C : Ctx} {id : Nat} {ops : List Oper} {F : Ex → St → Prop} {st : St} (h : vcRun (EV C) ops ops st (F .normal) ⟨⟩) : WP Tryz.prog C (.region id ops.toArray false) F st := WP_region (E := EV C) ttOK eqOK h.out
theorem cnd {C : Ctx} {c : Operand} {x y : Code} {F : Ex → St → Prop} {st : St} {b : Bool} (hc : ev st c = .o (.d (.v (.bool b)))) (h1 : b = true → WP Tryz.prog C x F st) (h2 : b = false → WP Tryz.prog C y F st) : WP Tryz.prog C (.cond c x y) F st := WP_cond (E := EV C) hc h1 h2
theorem cal {C : Ctx} {f : Nat} {args args' : List SV} {res : SV} {st : St} {K : St → SV → Prop} (h : FnC Tryz.prog f args' res) (he : args.map (pureS (frzH st.h (idsS args))) = args') (hfree : args'.all freeS = true) (k : K ⟨st.t, frzH st.h (idsS args) ++ adH res.all⟩ (adS (frzH st.h (idsS args)).length res)) : CallT (EV C) f args st K ⟨⟩ := ⟨CallS.frz (E := EV C) h he hfree k⟩
theorem cndt {C : Ctx} {c : Operand} {x y : Code} {F : Ex → St → Prop} {st : St} (hc : ev st c = .o (.d (.v (.bool true)))) (h : WP Tryz.prog C x F st) : WP Tryz.prog C (.cond c x y) F st := cnd_t (E := EV C) hc h
theorem cndf {C : Ctx} {c : Operand} {x y : Code} {F : Ex → St → Prop} {st : St} (hc : ev st c = .o (.d (.v (.bool false)))) (h : WP Tryz.prog C y F st) : WP Tryz.prog C (.cond c x y) F st := cnd_f (E := EV C) hc h
theorem fol : Tryz.prog.follows .mixedOrders = true := by kernel_rfl
theorem regd {C : Ctx} {id : Nat} {ops : List Oper} {F : Ex → St → Prop} {st : St} (hB : Region.lexB .any ops.toArray = true) (h : vcDRun (EV C) ops ops st (F .normal) ⟨⟩) : WP Tryz.prog C (.region id ops.toArray true) F st := WP_draw (E := EV C) ttOK eqOK fol hB h.out
theorem cald {C : Ctx} {f : Nat} {args args' : List SV} {res : SV} {h : List HB} {k : SV → Prop} (hf : FnC Tryz.prog f args' res) (h1 : args.map (pureS h) = args') (h2 : args'.all freeS = true) (h3 : res.all.all isD = true) (hk : k res) : CallD (EV C) f args h k ⟨⟩ := CallD.of_fn (E := EV C) hf h1 h2 h3 hk
theorem ent {f : Nat} {fn : Func} {c : Code} {rs : List ResultVar} {args : List SV} {res : SV} (hf : Tryz.prog.funcs[f]? = some fn) (hb : fn.body = some c) (hcall : ∀ x w, (callFunc f x).run Tryz.prog w = .ok (.enter f x) w) (hres : fn.results = rs.toArray)
    (h : ∀ C : Ctx, WP Tryz.prog C c (kont Tryz.prog C [] (retK (EV C) rs res)) (st0 args fn.ntmps)) : FnC Tryz.prog f args res := FnC.of_wp (eqk := eqk) ttOK hf hb hcall hres fun C _ => h C
theorem caldo {C : Ctx} {f : Nat} {args args' : List SV} {res : SV} {h : List HB} {k : SV → Prop} (hf : FnC Tryz.prog f args' res) (h1 : args.map (pureOS h) = args') (h2 : args'.all freeS = true) (h3 : res.all.all isD = true) (h4 : res.all.all isWS = true) (hk : k res) : CallD (EV C) f args h k ⟨⟩ := CallD.of_own (E := EV C) hf h1 h2 h3 h4 hk
theorem calo {C : Ctx} {f : Nat} {args args' : List SV} {res : SV} {st : St} {K : St → SV → Prop} (h : FnC Tryz.prog f args' res) (he : args.map (pureOS (frzH st.h (idsS args))) = args') (hfree : args'.all freeS = true) (hres : res.all.all isWS = true) (k : K ⟨st.t, frzH st.h (idsS args) ++ adG (fun _ => none) 0 res.all⟩ (adS (frzH st.h (idsS args)).length res)) : CallT (EV C) f args st K ⟨⟩ := ⟨CallS.lendF (E := EV C) h he hfree hres k⟩
theorem cali {C : Ctx} {f ty sz id : Nat} {rows rows' : List (List D)} {args' rest : List SV} {st : St} {K : St → SV → Prop} (h : FnI Tryz.prog f ty sz rows args' false rows') (hid : nthH (frzH st.h (idsS rest)) id = .row ty sz rows true) (he : rest.map (pureS (frzH st.h (idsS rest))) = args') (hfree : args'.all freeS = true) (k : K ⟨st.t.map (killS id), setH ((frzH st.h (idsS rest)).map (killB id)) id (.row ty sz rows' true)⟩ (.o (.s id))) : CallT (EV C) f (.o (.s id) :: rest) st K ⟨⟩ := ⟨CallS.give (E := EV C) h hid he hfree (by simpa using k)⟩
theorem calj {C : Ctx} {f ty sz id : Nat} {rows rows' : List (List D)} {args' rest : List SV} {st : St} {K : St → SV → Prop} (h : FnI Tryz.prog f ty sz rows args' true rows') (hid : nthH (frzH st.h (idsS rest)) id = .row ty sz rows true) (he : rest.map (pureS (frzH st.h (idsS rest))) = args') (hfree : args'.all freeS = true) (k : K ⟨st.t, setH (frzH st.h (idsS rest)) id (.row ty sz rows' true)⟩ (.t [])) : CallT (EV C) f (.o (.s id) :: rest) st K ⟨⟩ := ⟨CallS.give (E := EV C) h hid he hfree (by simpa using k)⟩
theorem regx {C : Ctx} {id : Nat} {ops l : List Oper} {F : Ex → St → Prop} {st : St} (hl : bodyX ops = l) (hB : lexX .any ops (bodyX ops).length (bodyX ops).length 0 (Array.replicate ops.length false) = true) (hb : backX .any ops (bodyX ops).length = true) (hn : (ops.any fun o => match o.op with | .buildSlice .. | .alloc .. | .store .. => true | .call c => (match c.callee with | .builtin .append => true | _ => false) | _ => false) = true) (hok : st.okB = true) (htag : (st.t.all fun s => !tagS s) = true) (h : vcXRun (EV C) ops l st (fun st' => vcXEnd (EV C) ops st' (F .normal) ⟨⟩) ⟨⟩) : WP Tryz.prog C (.region id ops.toArray true) F st := by
  subst hl
  have e : (fun st' => vcXEnd (EV C) ops st' (F .normal) ⟨⟩) = (fun st' => vcOps (EV C) ops (tailX ops) (finX (EV C) ops st') (F .normal)) := funext fun s => propext ⟨fun h => h.out, fun h => ⟨h⟩⟩
  rw [e] at h
  exact WP_drawX (E := EV C) ttOK eqOK fol hB hb hok htag h.out
theorem regs {C : Ctx} {id : Nat} {ops l : List Oper} {F : Ex → St → Prop} {st : St} (ps : List Nat) (hl : rdX ops = l) (hok : okStX ops ps = true) (hup : upPs ps ops = true) (hlt : (ps.all fun i => decide (i < ops.length)) = true) (hb : st.okB = true) (h : vcDRun (EV C) ops l st (fun st1 => vcStT (EV C) ops l ps st1 (F .normal) ⟨⟩) ⟨⟩) : WP Tryz.prog C (.region id ops.toArray true) F st := by
  subst hl
  have e : (fun st1 => vcStT (EV C) ops (rdX ops) ps st1 (F .normal) ⟨⟩) = (fun st1 => vcStI (EV C) ops ps st1 (F .normal)) := funext fun s => propext ⟨fun h => h.out rfl, fun h => ⟨fun _ => h⟩⟩
  rw [e] at h
  exact WP_stores (E := EV C) ttOK eqOK fol ps hok hup hlt hb h.out
theorem calx {C : Ctx} {f : Nat} {args args' : List SV} {res : SV} {h : List HB} {k : SV → Prop} (hf : FnC Tryz.prog f args' res) (h1 : args.map (pureS h) = args') (h2 : args'.all freeS = true) (ht : tagS res = true) (hk : k (liftS res)) : CallX (EV C) f args h k ⟨⟩ := ⟨.inr ⟨args', res, hf, h1, h2, ht, hk⟩⟩
theorem caldx {C : Ctx} {f : Nat} {args args' : List SV} {res : SV} {h : List HB} {k : SV → Prop} (hf : FnC Tryz.prog f args' res) (h1 : args.map (pureS h) = args') (h2 : args'.all freeS = true) (h3 : res.all.all isD = true) (hk : k res) : CallX (EV C) f args h k ⟨⟩ := ⟨.inl (CallD.of_fn (E := EV C) hf h1 h2 h3 hk)⟩
end Go.Proofs.YtiogaijpncjlmaaGreat
