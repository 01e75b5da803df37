/- The table of this translation's types, by program (gentypes.py), and that it is what the program says. -/
import Derived.Test.YtdgeoalhmmfgnaaGreatProg
import Derived.Test.YtdgeoalhmmfgnaaGreatL3
import Derived.Test.YtdgeoalhmmfgnaaGreatL5
import Derived.KernelRfl
set_option linter.all false
namespace Go.Proofs.YtdgeoalhmmfgnaaGreat
open Go Go.Sx Go.RowKit
noncomputable def ttl : List Ty := [.bad,
 .bad,
 ⟨3, 1, 8, [.d (.v (.int .i64 0))], [], 0, .i64⟩,
 ⟨3, 1, 8, [.d (.v (.int .i64 0))], [], 0, .i64⟩,
 ⟨4, 1, 1, [.d (.v (.bool false))], [], 0, .i64⟩,
 ⟨3, 1, 1, [.d (.v (.int .u8 0))], [], 0, .u8⟩,
 ⟨3, 1, 1, [.d (.v (.int .u8 0))], [], 0, .u8⟩,
 ⟨1, 4, 24, [.d (.v (.int .i64 0)), .d (.v (.int .i64 0)), .d (.v (.bool false)), .d (.v (.int .u8 0))], [(0, 2), (1, 3), (2, 4), (3, 6)], 0, .i64⟩,
 ⟨1, 4, 24, [.d (.v (.int .i64 0)), .d (.v (.int .i64 0)), .d (.v (.bool false)), .d (.v (.int .u8 0))], [(0, 2), (1, 3), (2, 4), (3, 6)], 0, .i64⟩,
 ⟨5, 1, 16, [.d (.v (.string ⟨#[]⟩))], [], 0, .i64⟩,
 ⟨5, 1, 16, [.d (.v (.string ⟨#[]⟩))], [], 0, .i64⟩,
 ⟨5, 1, 16, [.d (.v (.string ⟨#[]⟩))], [], 0, .i64⟩,
 .bad,
 .bad,
 .bad,
 .bad,
 .bad,
 .bad,
 .bad,
 .bad,
 .bad,
 .bad,
 ⟨2, 1, 24, [.z], [], 105, .i64⟩,
 ⟨2, 1, 24, [.z], [], 109, .i64⟩,
 ⟨1, 3, 56, [.z, .z, .d (.v (.int .i64 0))], [(0, 22), (1, 23), (2, 3)], 0, .i64⟩,
 ⟨1, 3, 56, [.z, .z, .d (.v (.int .i64 0))], [(0, 22), (1, 23), (2, 3)], 0, .i64⟩,
 ⟨2, 1, 24, [.z], [], 68, .i64⟩,
 ⟨2, 1, 24, [.z], [], 72, .i64⟩,
 ⟨1, 5, 104, [.z, .z, .d (.v (.int .i64 0)), .z, .z], [(0, 25), (3, 26), (4, 27)], 0, .i64⟩,
 ⟨1, 5, 104, [.z, .z, .d (.v (.int .i64 0)), .z, .z], [(0, 25), (3, 26), (4, 27)], 0, .i64⟩,
 .bad,
 .bad,
 ⟨2, 1, 24, [.z], [], 120, .i64⟩,
 ⟨2, 1, 24, [.z], [], 116, .i64⟩,
 ⟨1, 3, 56, [.z, .z, .d (.v (.int .i64 0))], [(0, 32), (1, 33), (2, 3)], 0, .i64⟩,
 ⟨1, 3, 56, [.z, .z, .d (.v (.int .i64 0))], [(0, 32), (1, 33), (2, 3)], 0, .i64⟩,
 ⟨2, 1, 24, [.z], [], 78, .i64⟩,
 ⟨2, 1, 24, [.z], [], 80, .i64⟩,
 ⟨1, 5, 104, [.z, .z, .d (.v (.int .i64 0)), .z, .z], [(0, 35), (3, 36), (4, 37)], 0, .i64⟩,
 ⟨1, 5, 104, [.z, .z, .d (.v (.int .i64 0)), .z, .z], [(0, 35), (3, 36), (4, 37)], 0, .i64⟩,
 .bad,
 .bad,
 .bad,
 ⟨2, 1, 24, [.z], [], 9, .i64⟩,
 .bad,
 .bad,
 .bad,
 .bad,
 .bad,
 .bad,
 .bad,
 .bad,
 .bad,
 .bad,
 .bad,
 .bad,
 .bad,
 .bad,
 .bad,
 .bad,
 .bad,
 .bad,
 .bad,
 .bad,
 .bad,
 .bad,
 ⟨2, 1, 24, [.z], [], 138, .i64⟩,
 ⟨1, 2, 40, [.d (.v (.string ⟨#[]⟩)), .z], [(0, 9), (1, 66)], 0, .i64⟩,
 ⟨1, 2, 40, [.d (.v (.string ⟨#[]⟩)), .z], [(0, 9), (1, 66)], 0, .i64⟩,
 .bad,
 ⟨2, 1, 24, [.z], [], 3, .i64⟩,
 ⟨1, 2, 40, [.d (.v (.string ⟨#[]⟩)), .z], [(0, 9), (1, 70)], 0, .i64⟩,
 ⟨1, 2, 40, [.d (.v (.string ⟨#[]⟩)), .z], [(0, 9), (1, 70)], 0, .i64⟩,
 .bad,
 .bad,
 .bad,
 ⟨2, 1, 24, [.z], [], 133, .i64⟩,
 ⟨1, 2, 40, [.d (.v (.string ⟨#[]⟩)), .z], [(0, 9), (1, 76)], 0, .i64⟩,
 ⟨1, 2, 40, [.d (.v (.string ⟨#[]⟩)), .z], [(0, 9), (1, 76)], 0, .i64⟩,
 .bad,
 ⟨1, 2, 40, [.d (.v (.string ⟨#[]⟩)), .z], [(0, 9), (1, 70)], 0, .i64⟩,
 .bad,
 .bad,
 .bad,
 .bad,
 .bad,
 .bad,
 .bad,
 .bad,
 .bad,
 .bad,
 .bad,
 .bad,
 .bad,
 .bad,
 .bad,
 .bad,
 .bad,
 .bad,
 .bad,
 .bad,
 .bad,
 .bad,
 .bad,
 ⟨1, 2, 24, [.d (.v (.string ⟨#[]⟩)), .d (.v (.int .i64 0))], [(0, 9), (1, 3)], 0, .i64⟩,
 ⟨1, 2, 24, [.d (.v (.string ⟨#[]⟩)), .d (.v (.int .i64 0))], [(0, 9), (1, 3)], 0, .i64⟩,
 .bad,
 ⟨2, 1, 24, [.z], [], 156, .i64⟩,
 ⟨1, 5, 56, [.d (.v (.int .i64 0)), .d (.v (.int .i64 0)), .d (.v (.bool false)), .d (.v (.int .i64 0)), .z], [(0, 3), (1, 3), (2, 4), (3, 3), (4, 107)], 0, .i64⟩,
 ⟨1, 5, 56, [.d (.v (.int .i64 0)), .d (.v (.int .i64 0)), .d (.v (.bool false)), .d (.v (.int .i64 0)), .z], [(0, 3), (1, 3), (2, 4), (3, 3), (4, 107)], 0, .i64⟩,
 .bad,
 .bad,
 .bad,
 .bad,
 ⟨2, 1, 24, [.z], [], 145, .i64⟩,
 ⟨1, 5, 56, [.d (.v (.int .i64 0)), .d (.v (.int .i64 0)), .d (.v (.bool false)), .d (.v (.int .i64 0)), .z], [(0, 3), (1, 3), (2, 4), (3, 3), (4, 114)], 0, .i64⟩,
 ⟨1, 5, 56, [.d (.v (.int .i64 0)), .d (.v (.int .i64 0)), .d (.v (.bool false)), .d (.v (.int .i64 0)), .z], [(0, 3), (1, 3), (2, 4), (3, 3), (4, 114)], 0, .i64⟩,
 .bad,
 .bad,
 .bad,
 ⟨1, 2, 24, [.d (.v (.string ⟨#[]⟩)), .d (.v (.int .i64 0))], [(0, 9), (1, 3)], 0, .i64⟩,
 .bad,
 .bad,
 .bad,
 .bad,
 .bad,
 .bad,
 .bad,
 .bad,
 ⟨2, 1, 24, [.z], [], 5, .i64⟩,
 ⟨1, 3, 32, [.d (.v (.int .i64 0)), .d (.v (.int .i64 0)), .d (.v (.string ⟨#[]⟩))], [(0, 3), (1, 3), (2, 9)], 0, .i64⟩,
 ⟨1, 3, 32, [.d (.v (.int .i64 0)), .d (.v (.int .i64 0)), .d (.v (.string ⟨#[]⟩))], [(0, 3), (1, 3), (2, 9)], 0, .i64⟩,
 ⟨1, 7, 72, [.d (.v (.int .i64 0)), .d (.v (.int .i64 0)), .d (.v (.int .i64 0)), .d (.v (.string ⟨#[]⟩)), .d (.v (.int .i64 0)), .d (.v (.int .i64 0)), .d (.v (.string ⟨#[]⟩))], [(0, 3), (1, 3), (2, 3), (3, 9), (4, 131)], 0, .i64⟩,
 ⟨1, 7, 72, [.d (.v (.int .i64 0)), .d (.v (.int .i64 0)), .d (.v (.int .i64 0)), .d (.v (.string ⟨#[]⟩)), .d (.v (.int .i64 0)), .d (.v (.int .i64 0)), .d (.v (.string ⟨#[]⟩))], [(0, 3), (1, 3), (2, 3), (3, 9), (4, 131)], 0, .i64⟩,
 .bad,
 .bad,
 ⟨1, 3, 32, [.d (.v (.int .i64 0)), .d (.v (.int .i64 0)), .d (.v (.string ⟨#[]⟩))], [(0, 3), (1, 3), (2, 9)], 0, .i64⟩,
 ⟨1, 7, 72, [.d (.v (.int .i64 0)), .d (.v (.int .i64 0)), .d (.v (.int .i64 0)), .d (.v (.string ⟨#[]⟩)), .d (.v (.int .i64 0)), .d (.v (.int .i64 0)), .d (.v (.string ⟨#[]⟩))], [(0, 3), (1, 3), (2, 3), (3, 9), (4, 136)], 0, .i64⟩,
 ⟨1, 7, 72, [.d (.v (.int .i64 0)), .d (.v (.int .i64 0)), .d (.v (.int .i64 0)), .d (.v (.string ⟨#[]⟩)), .d (.v (.int .i64 0)), .d (.v (.int .i64 0)), .d (.v (.string ⟨#[]⟩))], [(0, 3), (1, 3), (2, 3), (3, 9), (4, 136)], 0, .i64⟩,
 .bad,
 .bad,
 .bad,
 .bad,
 .bad,
 ⟨1, 4, 48, [.d (.v (.string ⟨#[]⟩)), .d (.v (.int .i64 0)), .d (.v (.int .i64 0)), .d (.v (.string ⟨#[]⟩))], [(0, 9), (1, 131)], 0, .i64⟩,
 ⟨1, 4, 48, [.d (.v (.string ⟨#[]⟩)), .d (.v (.int .i64 0)), .d (.v (.int .i64 0)), .d (.v (.string ⟨#[]⟩))], [(0, 9), (1, 131)], 0, .i64⟩,
 .bad,
 .bad,
 .bad,
 .bad,
 .bad,
 .bad,
 .bad,
 .bad,
 .bad,
 ⟨1, 4, 48, [.d (.v (.string ⟨#[]⟩)), .d (.v (.int .i64 0)), .d (.v (.int .i64 0)), .d (.v (.string ⟨#[]⟩))], [(0, 9), (1, 136)], 0, .i64⟩,
 ⟨1, 4, 48, [.d (.v (.string ⟨#[]⟩)), .d (.v (.int .i64 0)), .d (.v (.int .i64 0)), .d (.v (.string ⟨#[]⟩))], [(0, 9), (1, 136)], 0, .i64⟩,
 .bad,
 .bad,
 .bad,
 .bad,
 .bad,
 .bad,
 .bad,
 .bad,
 .bad,
 .bad,
 .bad,
 .bad,
 .bad,
 ⟨2, 1, 24, [.z], [], 4, .i64⟩,
 .bad,
 .bad,
 .bad,
 .bad,
 .bad,
 .bad,
 .bad,
 .bad,
 .bad,
 .bad,
 .bad,
 .bad,
 ⟨3, 1, 8, [.d (.v (.int .i64 0))], [], 0, .i64⟩,
 .bad,
 .bad,
 .bad,
 .bad,
 .bad,
 .bad,
 .bad,
 .bad,
 .bad,
 .bad,
 .bad,
 .bad,
 .bad,
 .bad,
 .bad,
 .bad,
 .bad,
 .bad,
 .bad,
 .bad,
 .bad,
 .bad,
 .bad,
 .bad,
 .bad,
 .bad,
 ⟨3, 1, 1, [.d (.v (.int .u8 0))], [], 0, .u8⟩,
 ⟨3, 1, 1, [.d (.v (.int .u8 0))], [], 0, .u8⟩,
 .bad,
 .bad,
 .bad,
 .bad,
 .bad,
 .bad,
 .bad]
noncomputable def tt : Nat → Ty := fun t => ttl.getD t .bad
theorem ttOK : TyOK Tryz.prog tt := TyOK.of_list (by kernel_rfl)
theorem tts : tt 2 = ⟨3, 1, 8, [.d (.v (.int .i64 0))], [], 0, .i64⟩ ∧ tt 3 = ⟨3, 1, 8, [.d (.v (.int .i64 0))], [], 0, .i64⟩ ∧ tt 4 = ⟨4, 1, 1, [.d (.v (.bool false))], [], 0, .i64⟩ ∧ tt 5 = ⟨3, 1, 1, [.d (.v (.int .u8 0))], [], 0, .u8⟩ ∧ tt 6 = ⟨3, 1, 1, [.d (.v (.int .u8 0))], [], 0, .u8⟩ ∧ tt 7 = ⟨1, 4, 24, [.d (.v (.int .i64 0)), .d (.v (.int .i64 0)), .d (.v (.bool false)), .d (.v (.int .u8 0))], [(0, 2), (1, 3), (2, 4), (3, 6)], 0, .i64⟩ ∧ tt 8 = ⟨1, 4, 24, [.d (.v (.int .i64 0)), .d (.v (.int .i64 0)), .d (.v (.bool false)), .d (.v (.int .u8 0))], [(0, 2), (1, 3), (2, 4), (3, 6)], 0, .i64⟩ ∧ tt 9 = ⟨5, 1, 16, [.d (.v (.string ⟨#[]⟩))], [], 0, .i64⟩ ∧ tt 10 = ⟨5, 1, 16, [.d (.v (.string ⟨#[]⟩))], [], 0, .i64⟩ ∧ tt 11 = ⟨5, 1, 16, [.d (.v (.string ⟨#[]⟩))], [], 0, .i64⟩ ∧ tt 22 = ⟨2, 1, 24, [.z], [], 105, .i64⟩ ∧ tt 23 = ⟨2, 1, 24, [.z], [], 109, .i64⟩ ∧ tt 24 = ⟨1, 3, 56, [.z, .z, .d (.v (.int .i64 0))], [(0, 22), (1, 23), (2, 3)], 0, .i64⟩ ∧ tt 25 = ⟨1, 3, 56, [.z, .z, .d (.v (.int .i64 0))], [(0, 22), (1, 23), (2, 3)], 0, .i64⟩ ∧ tt 26 = ⟨2, 1, 24, [.z], [], 68, .i64⟩ ∧ tt 27 = ⟨2, 1, 24, [.z], [], 72, .i64⟩ ∧ tt 28 = ⟨1, 5, 104, [.z, .z, .d (.v (.int .i64 0)), .z, .z], [(0, 25), (3, 26), (4, 27)], 0, .i64⟩ ∧ tt 29 = ⟨1, 5, 104, [.z, .z, .d (.v (.int .i64 0)), .z, .z], [(0, 25), (3, 26), (4, 27)], 0, .i64⟩ ∧ tt 32 = ⟨2, 1, 24, [.z], [], 120, .i64⟩ ∧ tt 33 = ⟨2, 1, 24, [.z], [], 116, .i64⟩ ∧ tt 34 = ⟨1, 3, 56, [.z, .z, .d (.v (.int .i64 0))], [(0, 32), (1, 33), (2, 3)], 0, .i64⟩ ∧ tt 35 = ⟨1, 3, 56, [.z, .z, .d (.v (.int .i64 0))], [(0, 32), (1, 33), (2, 3)], 0, .i64⟩ ∧ tt 36 = ⟨2, 1, 24, [.z], [], 78, .i64⟩ ∧ tt 37 = ⟨2, 1, 24, [.z], [], 80, .i64⟩ ∧ tt 38 = ⟨1, 5, 104, [.z, .z, .d (.v (.int .i64 0)), .z, .z], [(0, 35), (3, 36), (4, 37)], 0, .i64⟩ ∧ tt 39 = ⟨1, 5, 104, [.z, .z, .d (.v (.int .i64 0)), .z, .z], [(0, 35), (3, 36), (4, 37)], 0, .i64⟩ ∧ tt 43 = ⟨2, 1, 24, [.z], [], 9, .i64⟩ ∧ tt 66 = ⟨2, 1, 24, [.z], [], 138, .i64⟩ ∧ tt 67 = ⟨1, 2, 40, [.d (.v (.string ⟨#[]⟩)), .z], [(0, 9), (1, 66)], 0, .i64⟩ ∧ tt 68 = ⟨1, 2, 40, [.d (.v (.string ⟨#[]⟩)), .z], [(0, 9), (1, 66)], 0, .i64⟩ ∧ tt 70 = ⟨2, 1, 24, [.z], [], 3, .i64⟩ ∧ tt 71 = ⟨1, 2, 40, [.d (.v (.string ⟨#[]⟩)), .z], [(0, 9), (1, 70)], 0, .i64⟩ ∧ tt 72 = ⟨1, 2, 40, [.d (.v (.string ⟨#[]⟩)), .z], [(0, 9), (1, 70)], 0, .i64⟩ ∧ tt 76 = ⟨2, 1, 24, [.z], [], 133, .i64⟩ ∧ tt 77 = ⟨1, 2, 40, [.d (.v (.string ⟨#[]⟩)), .z], [(0, 9), (1, 76)], 0, .i64⟩ ∧ tt 78 = ⟨1, 2, 40, [.d (.v (.string ⟨#[]⟩)), .z], [(0, 9), (1, 76)], 0, .i64⟩ ∧ tt 80 = ⟨1, 2, 40, [.d (.v (.string ⟨#[]⟩)), .z], [(0, 9), (1, 70)], 0, .i64⟩ ∧ tt 104 = ⟨1, 2, 24, [.d (.v (.string ⟨#[]⟩)), .d (.v (.int .i64 0))], [(0, 9), (1, 3)], 0, .i64⟩ ∧ tt 105 = ⟨1, 2, 24, [.d (.v (.string ⟨#[]⟩)), .d (.v (.int .i64 0))], [(0, 9), (1, 3)], 0, .i64⟩ ∧ tt 107 = ⟨2, 1, 24, [.z], [], 156, .i64⟩ ∧ tt 108 = ⟨1, 5, 56, [.d (.v (.int .i64 0)), .d (.v (.int .i64 0)), .d (.v (.bool false)), .d (.v (.int .i64 0)), .z], [(0, 3), (1, 3), (2, 4), (3, 3), (4, 107)], 0, .i64⟩ ∧ tt 109 = ⟨1, 5, 56, [.d (.v (.int .i64 0)), .d (.v (.int .i64 0)), .d (.v (.bool false)), .d (.v (.int .i64 0)), .z], [(0, 3), (1, 3), (2, 4), (3, 3), (4, 107)], 0, .i64⟩ ∧ tt 114 = ⟨2, 1, 24, [.z], [], 145, .i64⟩ ∧ tt 115 = ⟨1, 5, 56, [.d (.v (.int .i64 0)), .d (.v (.int .i64 0)), .d (.v (.bool false)), .d (.v (.int .i64 0)), .z], [(0, 3), (1, 3), (2, 4), (3, 3), (4, 114)], 0, .i64⟩ ∧ tt 116 = ⟨1, 5, 56, [.d (.v (.int .i64 0)), .d (.v (.int .i64 0)), .d (.v (.bool false)), .d (.v (.int .i64 0)), .z], [(0, 3), (1, 3), (2, 4), (3, 3), (4, 114)], 0, .i64⟩ ∧ tt 120 = ⟨1, 2, 24, [.d (.v (.string ⟨#[]⟩)), .d (.v (.int .i64 0))], [(0, 9), (1, 3)], 0, .i64⟩ ∧ tt 129 = ⟨2, 1, 24, [.z], [], 5, .i64⟩ ∧ tt 130 = ⟨1, 3, 32, [.d (.v (.int .i64 0)), .d (.v (.int .i64 0)), .d (.v (.string ⟨#[]⟩))], [(0, 3), (1, 3), (2, 9)], 0, .i64⟩ ∧ tt 131 = ⟨1, 3, 32, [.d (.v (.int .i64 0)), .d (.v (.int .i64 0)), .d (.v (.string ⟨#[]⟩))], [(0, 3), (1, 3), (2, 9)], 0, .i64⟩ ∧ tt 132 = ⟨1, 7, 72, [.d (.v (.int .i64 0)), .d (.v (.int .i64 0)), .d (.v (.int .i64 0)), .d (.v (.string ⟨#[]⟩)), .d (.v (.int .i64 0)), .d (.v (.int .i64 0)), .d (.v (.string ⟨#[]⟩))], [(0, 3), (1, 3), (2, 3), (3, 9), (4, 131)], 0, .i64⟩ ∧ tt 133 = ⟨1, 7, 72, [.d (.v (.int .i64 0)), .d (.v (.int .i64 0)), .d (.v (.int .i64 0)), .d (.v (.string ⟨#[]⟩)), .d (.v (.int .i64 0)), .d (.v (.int .i64 0)), .d (.v (.string ⟨#[]⟩))], [(0, 3), (1, 3), (2, 3), (3, 9), (4, 131)], 0, .i64⟩ ∧ tt 136 = ⟨1, 3, 32, [.d (.v (.int .i64 0)), .d (.v (.int .i64 0)), .d (.v (.string ⟨#[]⟩))], [(0, 3), (1, 3), (2, 9)], 0, .i64⟩ ∧ tt 137 = ⟨1, 7, 72, [.d (.v (.int .i64 0)), .d (.v (.int .i64 0)), .d (.v (.int .i64 0)), .d (.v (.string ⟨#[]⟩)), .d (.v (.int .i64 0)), .d (.v (.int .i64 0)), .d (.v (.string ⟨#[]⟩))], [(0, 3), (1, 3), (2, 3), (3, 9), (4, 136)], 0, .i64⟩ ∧ tt 138 = ⟨1, 7, 72, [.d (.v (.int .i64 0)), .d (.v (.int .i64 0)), .d (.v (.int .i64 0)), .d (.v (.string ⟨#[]⟩)), .d (.v (.int .i64 0)), .d (.v (.int .i64 0)), .d (.v (.string ⟨#[]⟩))], [(0, 3), (1, 3), (2, 3), (3, 9), (4, 136)], 0, .i64⟩ ∧ tt 144 = ⟨1, 4, 48, [.d (.v (.string ⟨#[]⟩)), .d (.v (.int .i64 0)), .d (.v (.int .i64 0)), .d (.v (.string ⟨#[]⟩))], [(0, 9), (1, 131)], 0, .i64⟩ ∧ tt 145 = ⟨1, 4, 48, [.d (.v (.string ⟨#[]⟩)), .d (.v (.int .i64 0)), .d (.v (.int .i64 0)), .d (.v (.string ⟨#[]⟩))], [(0, 9), (1, 131)], 0, .i64⟩ ∧ tt 155 = ⟨1, 4, 48, [.d (.v (.string ⟨#[]⟩)), .d (.v (.int .i64 0)), .d (.v (.int .i64 0)), .d (.v (.string ⟨#[]⟩))], [(0, 9), (1, 136)], 0, .i64⟩ ∧ tt 156 = ⟨1, 4, 48, [.d (.v (.string ⟨#[]⟩)), .d (.v (.int .i64 0)), .d (.v (.int .i64 0)), .d (.v (.string ⟨#[]⟩))], [(0, 9), (1, 136)], 0, .i64⟩ ∧ tt 170 = ⟨2, 1, 24, [.z], [], 4, .i64⟩ ∧ tt 183 = ⟨3, 1, 8, [.d (.v (.int .i64 0))], [], 0, .i64⟩ ∧ tt 210 = ⟨3, 1, 1, [.d (.v (.int .u8 0))], [], 0, .u8⟩ ∧ tt 211 = ⟨3, 1, 1, [.d (.v (.int .u8 0))], [], 0, .u8⟩ :=
 ⟨rfl, rfl, rfl, rfl, rfl, rfl, rfl, rfl, rfl, rfl, rfl, rfl, rfl, rfl, rfl, rfl, rfl, rfl, rfl, rfl, rfl, rfl, rfl, rfl, rfl, rfl, rfl, rfl, rfl, rfl, rfl, rfl, rfl, rfl, rfl, rfl, rfl, rfl, rfl, rfl, rfl, rfl, rfl, rfl, rfl, rfl, rfl, rfl, rfl, rfl, rfl, rfl, rfl, rfl, rfl, rfl, rfl, rfl, rfl, rfl, rfl, rfl⟩
def eqk : Nat → List Nat := fun t => if t = 105 then [3, 1] else if t = 120 then [3, 1] else if t = 131 then [1, 1, 3] else if t = 133 then [1, 1, 1, 3, 1, 1, 3] else if t = 136 then [1, 1, 3] else if t = 138 then [1, 1, 1, 3, 1, 1, 3] else if t = 145 then [3, 1, 1, 3] else if t = 156 then [3, 1, 1, 3] else []
theorem kind1_inv {v : Value} (h : kindV v = 1) : ∃ x : Int, v = .int .i64 x := by
 cases v with
 | int k n => cases k <;> simp_all [kindV]
 | _ => simp_all [kindV]
theorem kind3_inv {v : Value} (h : kindV v = 3) : ∃ x : ByteArray, v = .string x := by
 cases v with
 | int k n => cases k <;> simp_all [kindV]
 | _ => simp_all [kindV]
theorem kinds105 {xs : List Value} (h : xs.map kindV = [3, 1]) : ∃ (x0 : ByteArray) (x1 : Int), xs = [.string x0, .int .i64 x1] := by
 obtain ⟨v0, xs, rfl⟩ : ∃ v l, xs = v :: l := by cases xs with
  | nil => simp at h
  | cons v l => exact ⟨v, l, rfl⟩
 simp only [List.map_cons, List.cons.injEq] at h
 obtain ⟨h0, h⟩ := h
 obtain ⟨v1, xs, rfl⟩ : ∃ v l, xs = v :: l := by cases xs with
  | nil => simp at h
  | cons v l => exact ⟨v, l, rfl⟩
 simp only [List.map_cons, List.cons.injEq] at h
 obtain ⟨h1, h⟩ := h
 have : xs = [] := by simpa using h
 subst this
 obtain ⟨x0, rfl⟩ := kind3_inv h0
 obtain ⟨x1, rfl⟩ := kind1_inv h1
 exact ⟨x0, x1, rfl⟩
theorem kinds120 {xs : List Value} (h : xs.map kindV = [3, 1]) : ∃ (x0 : ByteArray) (x1 : Int), xs = [.string x0, .int .i64 x1] := by
 obtain ⟨v0, xs, rfl⟩ : ∃ v l, xs = v :: l := by cases xs with
  | nil => simp at h
  | cons v l => exact ⟨v, l, rfl⟩
 simp only [List.map_cons, List.cons.injEq] at h
 obtain ⟨h0, h⟩ := h
 obtain ⟨v1, xs, rfl⟩ : ∃ v l, xs = v :: l := by cases xs with
  | nil => simp at h
  | cons v l => exact ⟨v, l, rfl⟩
 simp only [List.map_cons, List.cons.injEq] at h
 obtain ⟨h1, h⟩ := h
 have : xs = [] := by simpa using h
 subst this
 obtain ⟨x0, rfl⟩ := kind3_inv h0
 obtain ⟨x1, rfl⟩ := kind1_inv h1
 exact ⟨x0, x1, rfl⟩
theorem kinds131 {xs : List Value} (h : xs.map kindV = [1, 1, 3]) : ∃ (x0 : Int) (x1 : Int) (x2 : ByteArray), xs = [.int .i64 x0, .int .i64 x1, .string x2] := by
 obtain ⟨v0, xs, rfl⟩ : ∃ v l, xs = v :: l := by cases xs with
  | nil => simp at h
  | cons v l => exact ⟨v, l, rfl⟩
 simp only [List.map_cons, List.cons.injEq] at h
 obtain ⟨h0, h⟩ := h
 obtain ⟨v1, xs, rfl⟩ : ∃ v l, xs = v :: l := by cases xs with
  | nil => simp at h
  | cons v l => exact ⟨v, l, rfl⟩
 simp only [List.map_cons, List.cons.injEq] at h
 obtain ⟨h1, h⟩ := h
 obtain ⟨v2, xs, rfl⟩ : ∃ v l, xs = v :: l := by cases xs with
  | nil => simp at h
  | cons v l => exact ⟨v, l, rfl⟩
 simp only [List.map_cons, List.cons.injEq] at h
 obtain ⟨h2, h⟩ := h
 have : xs = [] := by simpa using h
 subst this
 obtain ⟨x0, rfl⟩ := kind1_inv h0
 obtain ⟨x1, rfl⟩ := kind1_inv h1
 obtain ⟨x2, rfl⟩ := kind3_inv h2
 exact ⟨x0, x1, x2, rfl⟩
theorem kinds133 {xs : List Value} (h : xs.map kindV = [1, 1, 1, 3, 1, 1, 3]) : ∃ (x0 : Int) (x1 : Int) (x2 : Int) (x3 : ByteArray) (x4 : Int) (x5 : Int) (x6 : ByteArray), xs = [.int .i64 x0, .int .i64 x1, .int .i64 x2, .string x3, .int .i64 x4, .int .i64 x5, .string x6] := by
 obtain ⟨v0, xs, rfl⟩ : ∃ v l, xs = v :: l := by cases xs with
  | nil => simp at h
  | cons v l => exact ⟨v, l, rfl⟩
 simp only [List.map_cons, List.cons.injEq] at h
 obtain ⟨h0, h⟩ := h
 obtain ⟨v1, xs, rfl⟩ : ∃ v l, xs = v :: l := by cases xs with
  | nil => simp at h
  | cons v l => exact ⟨v, l, rfl⟩
 simp only [List.map_cons, List.cons.injEq] at h
 obtain ⟨h1, h⟩ := h
 obtain ⟨v2, xs, rfl⟩ : ∃ v l, xs = v :: l := by cases xs with
  | nil => simp at h
  | cons v l => exact ⟨v, l, rfl⟩
 simp only [List.map_cons, List.cons.injEq] at h
 obtain ⟨h2, h⟩ := h
 obtain ⟨v3, xs, rfl⟩ : ∃ v l, xs = v :: l := by cases xs with
  | nil => simp at h
  | cons v l => exact ⟨v, l, rfl⟩
 simp only [List.map_cons, List.cons.injEq] at h
 obtain ⟨h3, h⟩ := h
 obtain ⟨v4, xs, rfl⟩ : ∃ v l, xs = v :: l := by cases xs with
  | nil => simp at h
  | cons v l => exact ⟨v, l, rfl⟩
 simp only [List.map_cons, List.cons.injEq] at h
 obtain ⟨h4, h⟩ := h
 obtain ⟨v5, xs, rfl⟩ : ∃ v l, xs = v :: l := by cases xs with
  | nil => simp at h
  | cons v l => exact ⟨v, l, rfl⟩
 simp only [List.map_cons, List.cons.injEq] at h
 obtain ⟨h5, h⟩ := h
 obtain ⟨v6, xs, rfl⟩ : ∃ v l, xs = v :: l := by cases xs with
  | nil => simp at h
  | cons v l => exact ⟨v, l, rfl⟩
 simp only [List.map_cons, List.cons.injEq] at h
 obtain ⟨h6, h⟩ := h
 have : xs = [] := by simpa using h
 subst this
 obtain ⟨x0, rfl⟩ := kind1_inv h0
 obtain ⟨x1, rfl⟩ := kind1_inv h1
 obtain ⟨x2, rfl⟩ := kind1_inv h2
 obtain ⟨x3, rfl⟩ := kind3_inv h3
 obtain ⟨x4, rfl⟩ := kind1_inv h4
 obtain ⟨x5, rfl⟩ := kind1_inv h5
 obtain ⟨x6, rfl⟩ := kind3_inv h6
 exact ⟨x0, x1, x2, x3, x4, x5, x6, rfl⟩
theorem kinds136 {xs : List Value} (h : xs.map kindV = [1, 1, 3]) : ∃ (x0 : Int) (x1 : Int) (x2 : ByteArray), xs = [.int .i64 x0, .int .i64 x1, .string x2] := by
 obtain ⟨v0, xs, rfl⟩ : ∃ v l, xs = v :: l := by cases xs with
  | nil => simp at h
  | cons v l => exact ⟨v, l, rfl⟩
 simp only [List.map_cons, List.cons.injEq] at h
 obtain ⟨h0, h⟩ := h
 obtain ⟨v1, xs, rfl⟩ : ∃ v l, xs = v :: l := by cases xs with
  | nil => simp at h
  | cons v l => exact ⟨v, l, rfl⟩
 simp only [List.map_cons, List.cons.injEq] at h
 obtain ⟨h1, h⟩ := h
 obtain ⟨v2, xs, rfl⟩ : ∃ v l, xs = v :: l := by cases xs with
  | nil => simp at h
  | cons v l => exact ⟨v, l, rfl⟩
 simp only [List.map_cons, List.cons.injEq] at h
 obtain ⟨h2, h⟩ := h
 have : xs = [] := by simpa using h
 subst this
 obtain ⟨x0, rfl⟩ := kind1_inv h0
 obtain ⟨x1, rfl⟩ := kind1_inv h1
 obtain ⟨x2, rfl⟩ := kind3_inv h2
 exact ⟨x0, x1, x2, rfl⟩
theorem kinds138 {xs : List Value} (h : xs.map kindV = [1, 1, 1, 3, 1, 1, 3]) : ∃ (x0 : Int) (x1 : Int) (x2 : Int) (x3 : ByteArray) (x4 : Int) (x5 : Int) (x6 : ByteArray), xs = [.int .i64 x0, .int .i64 x1, .int .i64 x2, .string x3, .int .i64 x4, .int .i64 x5, .string x6] := by
 obtain ⟨v0, xs, rfl⟩ : ∃ v l, xs = v :: l := by cases xs with
  | nil => simp at h
  | cons v l => exact ⟨v, l, rfl⟩
 simp only [List.map_cons, List.cons.injEq] at h
 obtain ⟨h0, h⟩ := h
 obtain ⟨v1, xs, rfl⟩ : ∃ v l, xs = v :: l := by cases xs with
  | nil => simp at h
  | cons v l => exact ⟨v, l, rfl⟩
 simp only [List.map_cons, List.cons.injEq] at h
 obtain ⟨h1, h⟩ := h
 obtain ⟨v2, xs, rfl⟩ : ∃ v l, xs = v :: l := by cases xs with
  | nil => simp at h
  | cons v l => exact ⟨v, l, rfl⟩
 simp only [List.map_cons, List.cons.injEq] at h
 obtain ⟨h2, h⟩ := h
 obtain ⟨v3, xs, rfl⟩ : ∃ v l, xs = v :: l := by cases xs with
  | nil => simp at h
  | cons v l => exact ⟨v, l, rfl⟩
 simp only [List.map_cons, List.cons.injEq] at h
 obtain ⟨h3, h⟩ := h
 obtain ⟨v4, xs, rfl⟩ : ∃ v l, xs = v :: l := by cases xs with
  | nil => simp at h
  | cons v l => exact ⟨v, l, rfl⟩
 simp only [List.map_cons, List.cons.injEq] at h
 obtain ⟨h4, h⟩ := h
 obtain ⟨v5, xs, rfl⟩ : ∃ v l, xs = v :: l := by cases xs with
  | nil => simp at h
  | cons v l => exact ⟨v, l, rfl⟩
 simp only [List.map_cons, List.cons.injEq] at h
 obtain ⟨h5, h⟩ := h
 obtain ⟨v6, xs, rfl⟩ : ∃ v l, xs = v :: l := by cases xs with
  | nil => simp at h
  | cons v l => exact ⟨v, l, rfl⟩
 simp only [List.map_cons, List.cons.injEq] at h
 obtain ⟨h6, h⟩ := h
 have : xs = [] := by simpa using h
 subst this
 obtain ⟨x0, rfl⟩ := kind1_inv h0
 obtain ⟨x1, rfl⟩ := kind1_inv h1
 obtain ⟨x2, rfl⟩ := kind1_inv h2
 obtain ⟨x3, rfl⟩ := kind3_inv h3
 obtain ⟨x4, rfl⟩ := kind1_inv h4
 obtain ⟨x5, rfl⟩ := kind1_inv h5
 obtain ⟨x6, rfl⟩ := kind3_inv h6
 exact ⟨x0, x1, x2, x3, x4, x5, x6, rfl⟩
theorem kinds145 {xs : List Value} (h : xs.map kindV = [3, 1, 1, 3]) : ∃ (x0 : ByteArray) (x1 : Int) (x2 : Int) (x3 : ByteArray), xs = [.string x0, .int .i64 x1, .int .i64 x2, .string x3] := by
 obtain ⟨v0, xs, rfl⟩ : ∃ v l, xs = v :: l := by cases xs with
  | nil => simp at h
  | cons v l => exact ⟨v, l, rfl⟩
 simp only [List.map_cons, List.cons.injEq] at h
 obtain ⟨h0, h⟩ := h
 obtain ⟨v1, xs, rfl⟩ : ∃ v l, xs = v :: l := by cases xs with
  | nil => simp at h
  | cons v l => exact ⟨v, l, rfl⟩
 simp only [List.map_cons, List.cons.injEq] at h
 obtain ⟨h1, h⟩ := h
 obtain ⟨v2, xs, rfl⟩ : ∃ v l, xs = v :: l := by cases xs with
  | nil => simp at h
  | cons v l => exact ⟨v, l, rfl⟩
 simp only [List.map_cons, List.cons.injEq] at h
 obtain ⟨h2, h⟩ := h
 obtain ⟨v3, xs, rfl⟩ : ∃ v l, xs = v :: l := by cases xs with
  | nil => simp at h
  | cons v l => exact ⟨v, l, rfl⟩
 simp only [List.map_cons, List.cons.injEq] at h
 obtain ⟨h3, h⟩ := h
 have : xs = [] := by simpa using h
 subst this
 obtain ⟨x0, rfl⟩ := kind3_inv h0
 obtain ⟨x1, rfl⟩ := kind1_inv h1
 obtain ⟨x2, rfl⟩ := kind1_inv h2
 obtain ⟨x3, rfl⟩ := kind3_inv h3
 exact ⟨x0, x1, x2, x3, rfl⟩
theorem kinds156 {xs : List Value} (h : xs.map kindV = [3, 1, 1, 3]) : ∃ (x0 : ByteArray) (x1 : Int) (x2 : Int) (x3 : ByteArray), xs = [.string x0, .int .i64 x1, .int .i64 x2, .string x3] := by
 obtain ⟨v0, xs, rfl⟩ : ∃ v l, xs = v :: l := by cases xs with
  | nil => simp at h
  | cons v l => exact ⟨v, l, rfl⟩
 simp only [List.map_cons, List.cons.injEq] at h
 obtain ⟨h0, h⟩ := h
 obtain ⟨v1, xs, rfl⟩ : ∃ v l, xs = v :: l := by cases xs with
  | nil => simp at h
  | cons v l => exact ⟨v, l, rfl⟩
 simp only [List.map_cons, List.cons.injEq] at h
 obtain ⟨h1, h⟩ := h
 obtain ⟨v2, xs, rfl⟩ : ∃ v l, xs = v :: l := by cases xs with
  | nil => simp at h
  | cons v l => exact ⟨v, l, rfl⟩
 simp only [List.map_cons, List.cons.injEq] at h
 obtain ⟨h2, h⟩ := h
 obtain ⟨v3, xs, rfl⟩ : ∃ v l, xs = v :: l := by cases xs with
  | nil => simp at h
  | cons v l => exact ⟨v, l, rfl⟩
 simp only [List.map_cons, List.cons.injEq] at h
 obtain ⟨h3, h⟩ := h
 have : xs = [] := by simpa using h
 subst this
 obtain ⟨x0, rfl⟩ := kind3_inv h0
 obtain ⟨x1, rfl⟩ := kind1_inv h1
 obtain ⟨x2, rfl⟩ := kind1_inv h2
 obtain ⟨x3, rfl⟩ := kind3_inv h3
 exact ⟨x0, x1, x2, x3, rfl⟩
set_option maxHeartbeats 1000000 in
theorem eqT105 : EqT Tryz.prog 105 [3, 1] := by
 refine ⟨by decide, fun w xs ys hx hy => ?_, fun w xs ys hx hy => ?_, fun op x y xs ys w => run_eqGuard_agg w op 105 x y xs ys Tryz.eqGuardType105⟩
 ·obtain ⟨x0, x1, hx⟩ := kinds105 hx
  obtain ⟨y0, y1, hy⟩ := kinds105 hy
  subst hx; subst hy
  simp [go_sem, eqVs, eqV, beq_int, beq_bytes]
  (repeat' split) <;> simp_all
 ·obtain ⟨x0, x1, hx⟩ := kinds105 hx
  obtain ⟨y0, y1, hy⟩ := kinds105 hy
  subst hx; subst hy
  simp [go_sem, eqVs, eqV, beq_int, beq_bytes]
  (repeat' split) <;> simp_all
set_option maxHeartbeats 1000000 in
theorem eqT120 : EqT Tryz.prog 120 [3, 1] := by
 refine ⟨by decide, fun w xs ys hx hy => ?_, fun w xs ys hx hy => ?_, fun op x y xs ys w => run_eqGuard_agg w op 120 x y xs ys Tryz.eqGuardType120⟩
 ·obtain ⟨x0, x1, hx⟩ := kinds120 hx
  obtain ⟨y0, y1, hy⟩ := kinds120 hy
  subst hx; subst hy
  simp [go_sem, eqVs, eqV, beq_int, beq_bytes]
  (repeat' split) <;> simp_all
 ·obtain ⟨x0, x1, hx⟩ := kinds120 hx
  obtain ⟨y0, y1, hy⟩ := kinds120 hy
  subst hx; subst hy
  simp [go_sem, eqVs, eqV, beq_int, beq_bytes]
  (repeat' split) <;> simp_all
set_option maxHeartbeats 1000000 in
theorem eqT131 : EqT Tryz.prog 131 [1, 1, 3] := by
 refine ⟨by decide, fun w xs ys hx hy => ?_, fun w xs ys hx hy => ?_, fun op x y xs ys w => run_eqGuard_agg w op 131 x y xs ys Tryz.eqGuardType131⟩
 ·obtain ⟨x0, x1, x2, hx⟩ := kinds131 hx
  obtain ⟨y0, y1, y2, hy⟩ := kinds131 hy
  subst hx; subst hy
  simp [go_sem, eqVs, eqV, beq_int, beq_bytes]
  (repeat' split) <;> simp_all
 ·obtain ⟨x0, x1, x2, hx⟩ := kinds131 hx
  obtain ⟨y0, y1, y2, hy⟩ := kinds131 hy
  subst hx; subst hy
  simp [go_sem, eqVs, eqV, beq_int, beq_bytes]
  (repeat' split) <;> simp_all
set_option maxHeartbeats 1000000 in
theorem eqT133 : EqT Tryz.prog 133 [1, 1, 1, 3, 1, 1, 3] := by
 refine ⟨by decide, fun w xs ys hx hy => ?_, fun w xs ys hx hy => ?_, fun op x y xs ys w => run_eqGuard_agg w op 133 x y xs ys Tryz.eqGuardType133⟩
 ·obtain ⟨x0, x1, x2, x3, x4, x5, x6, hx⟩ := kinds133 hx
  obtain ⟨y0, y1, y2, y3, y4, y5, y6, hy⟩ := kinds133 hy
  subst hx; subst hy
  simp [go_sem, eqVs, eqV, beq_int, beq_bytes]
  (repeat' split) <;> simp_all
 ·obtain ⟨x0, x1, x2, x3, x4, x5, x6, hx⟩ := kinds133 hx
  obtain ⟨y0, y1, y2, y3, y4, y5, y6, hy⟩ := kinds133 hy
  subst hx; subst hy
  simp [go_sem, eqVs, eqV, beq_int, beq_bytes]
  (repeat' split) <;> simp_all
set_option maxHeartbeats 1000000 in
theorem eqT136 : EqT Tryz.prog 136 [1, 1, 3] := by
 refine ⟨by decide, fun w xs ys hx hy => ?_, fun w xs ys hx hy => ?_, fun op x y xs ys w => run_eqGuard_agg w op 136 x y xs ys Tryz.eqGuardType136⟩
 ·obtain ⟨x0, x1, x2, hx⟩ := kinds136 hx
  obtain ⟨y0, y1, y2, hy⟩ := kinds136 hy
  subst hx; subst hy
  simp [go_sem, eqVs, eqV, beq_int, beq_bytes]
  (repeat' split) <;> simp_all
 ·obtain ⟨x0, x1, x2, hx⟩ := kinds136 hx
  obtain ⟨y0, y1, y2, hy⟩ := kinds136 hy
  subst hx; subst hy
  simp [go_sem, eqVs, eqV, beq_int, beq_bytes]
  (repeat' split) <;> simp_all
set_option maxHeartbeats 1000000 in
theorem eqT138 : EqT Tryz.prog 138 [1, 1, 1, 3, 1, 1, 3] := by
 refine ⟨by decide, fun w xs ys hx hy => ?_, fun w xs ys hx hy => ?_, fun op x y xs ys w => run_eqGuard_agg w op 138 x y xs ys Tryz.eqGuardType138⟩
 ·obtain ⟨x0, x1, x2, x3, x4, x5, x6, hx⟩ := kinds138 hx
  obtain ⟨y0, y1, y2, y3, y4, y5, y6, hy⟩ := kinds138 hy
  subst hx; subst hy
  simp [go_sem, eqVs, eqV, beq_int, beq_bytes]
  (repeat' split) <;> simp_all
 ·obtain ⟨x0, x1, x2, x3, x4, x5, x6, hx⟩ := kinds138 hx
  obtain ⟨y0, y1, y2, y3, y4, y5, y6, hy⟩ := kinds138 hy
  subst hx; subst hy
  simp [go_sem, eqVs, eqV, beq_int, beq_bytes]
  (repeat' split) <;> simp_all
set_option maxHeartbeats 1000000 in
theorem eqT145 : EqT Tryz.prog 145 [3, 1, 1, 3] := by
 refine ⟨by decide, fun w xs ys hx hy => ?_, fun w xs ys hx hy => ?_, fun op x y xs ys w => run_eqGuard_agg w op 145 x y xs ys Tryz.eqGuardType145⟩
 ·obtain ⟨x0, x1, x2, x3, hx⟩ := kinds145 hx
  obtain ⟨y0, y1, y2, y3, hy⟩ := kinds145 hy
  subst hx; subst hy
  simp [go_sem, eqVs, eqV, beq_int, beq_bytes]
  (repeat' split) <;> simp_all
 ·obtain ⟨x0, x1, x2, x3, hx⟩ := kinds145 hx
  obtain ⟨y0, y1, y2, y3, hy⟩ := kinds145 hy
  subst hx; subst hy
  simp [go_sem, eqVs, eqV, beq_int, beq_bytes]
  (repeat' split) <;> simp_all
set_option maxHeartbeats 1000000 in
theorem eqT156 : EqT Tryz.prog 156 [3, 1, 1, 3] := by
 refine ⟨by decide, fun w xs ys hx hy => ?_, fun w xs ys hx hy => ?_, fun op x y xs ys w => run_eqGuard_agg w op 156 x y xs ys Tryz.eqGuardType156⟩
 ·obtain ⟨x0, x1, x2, x3, hx⟩ := kinds156 hx
  obtain ⟨y0, y1, y2, y3, hy⟩ := kinds156 hy
  subst hx; subst hy
  simp [go_sem, eqVs, eqV, beq_int, beq_bytes]
  (repeat' split) <;> simp_all
 ·obtain ⟨x0, x1, x2, x3, hx⟩ := kinds156 hx
  obtain ⟨y0, y1, y2, y3, hy⟩ := kinds156 hy
  subst hx; subst hy
  simp [go_sem, eqVs, eqV, beq_int, beq_bytes]
  (repeat' split) <;> simp_all
theorem eqOK : ∀ t, eqk t ≠ [] → EqT Tryz.prog t (eqk t) := by
 intro t h
 unfold eqk at h ⊢
 by_cases e105 : t = 105
 ·subst e105; exact eqT105
 simp only [e105, if_false] at h ⊢
 by_cases e120 : t = 120
 ·subst e120; exact eqT120
 simp only [e120, if_false] at h ⊢
 by_cases e131 : t = 131
 ·subst e131; exact eqT131
 simp only [e131, if_false] at h ⊢
 by_cases e133 : t = 133
 ·subst e133; exact eqT133
 simp only [e133, if_false] at h ⊢
 by_cases e136 : t = 136
 ·subst e136; exact eqT136
 simp only [e136, if_false] at h ⊢
 by_cases e138 : t = 138
 ·subst e138; exact eqT138
 simp only [e138, if_false] at h ⊢
 by_cases e145 : t = 145
 ·subst e145; exact eqT145
 simp only [e145, if_false] at h ⊢
 by_cases e156 : t = 156
 ·subst e156; exact eqT156
 simp only [e156, if_false] at h ⊢
 exact (h rfl).elim
noncomputable def EV (C : Ctx) : Env := ⟨Tryz.prog, tt, C, eqk⟩
theorem EV_T (C : Ctx) : (EV C).T = tt := rfl
theorem EV_q (C : Ctx) : (EV C).eqk = eqk := rfl
attribute [go_sem] tts EV_T EV_q eqk
theorem reg {C : Ctx} {id : Nat} {ops : List Oper} {F : Ex → St → Prop} {st : St} (h : vcRun (EV C) ops ops st (F .normal) ⟨⟩) : WP Tryz.prog C (.region id ops.toArray false) F st := WP_region (E := EV C) ttOK eqOK h.out
theorem cnd {C : Ctx} {c : Operand} {x y : Code} {F : Ex → St → Prop} {st : St} {b : Bool} (hc : ev st c = .o (.d (.v (.bool b)))) (h1 : b = true → WP Tryz.prog C x F st) (h2 : b = false → WP Tryz.prog C y F st) : WP Tryz.prog C (.cond c x y) F st := WP_cond (E := EV C) hc h1 h2
theorem cal {C : Ctx} {f : Nat} {args args' : List SV} {res : SV} {st : St} {K : St → SV → Prop} (h : FnC Tryz.prog f args' res) (he : args.map (pureS (frzH st.h (idsS args))) = args') (hfree : args'.all freeS = true) (k : K ⟨st.t, frzH st.h (idsS args) ++ adH res.all⟩ (adS (frzH st.h (idsS args)).length res)) : CallT (EV C) f args st K ⟨⟩ := ⟨CallS.frz (E := EV C) h he hfree k⟩
theorem cndt {C : Ctx} {c : Operand} {x y : Code} {F : Ex → St → Prop} {st : St} (hc : ev st c = .o (.d (.v (.bool true)))) (h : WP Tryz.prog C x F st) : WP Tryz.prog C (.cond c x y) F st := cnd_t (E := EV C) hc h
theorem cndf {C : Ctx} {c : Operand} {x y : Code} {F : Ex → St → Prop} {st : St} (hc : ev st c = .o (.d (.v (.bool false)))) (h : WP Tryz.prog C y F st) : WP Tryz.prog C (.cond c x y) F st := cnd_f (E := EV C) hc h
theorem fol : Tryz.prog.follows .mixedOrders = true := by kernel_rfl
theorem regd {C : Ctx} {id : Nat} {ops : List Oper} {F : Ex → St → Prop} {st : St} (hB : Region.lexB .any ops.toArray = true) (h : vcDRun (EV C) ops ops st (F .normal) ⟨⟩) : WP Tryz.prog C (.region id ops.toArray true) F st := WP_draw (E := EV C) ttOK eqOK fol hB h.out
theorem cald {C : Ctx} {f : Nat} {args args' : List SV} {res : SV} {h : List HB} {k : SV → Prop} (hf : FnC Tryz.prog f args' res) (h1 : args.map (pureS h) = args') (h2 : args'.all freeS = true) (h3 : res.all.all isD = true) (hk : k res) : CallD (EV C) f args h k ⟨⟩ := CallD.of_fn (E := EV C) hf h1 h2 h3 hk
theorem ent {f : Nat} {fn : Func} {c : Code} {rs : List ResultVar} {args : List SV} {res : SV} (hf : Tryz.prog.funcs[f]? = some fn) (hb : fn.body = some c) (hcall : ∀ x w, (callFunc f x).run Tryz.prog w = .ok (.enter f x) w) (hres : fn.results = rs.toArray)
    (h : ∀ C : Ctx, WP Tryz.prog C c (kont Tryz.prog C [] (retK (EV C) rs res)) (st0 args fn.ntmps)) : FnC Tryz.prog f args res := FnC.of_wp (eqk := eqk) ttOK hf hb hcall hres fun C _ => h C
theorem caldo {C : Ctx} {f : Nat} {args args' : List SV} {res : SV} {h : List HB} {k : SV → Prop} (hf : FnC Tryz.prog f args' res) (h1 : args.map (pureOS h) = args') (h2 : args'.all freeS = true) (h3 : res.all.all isD = true) (h4 : res.all.all isWS = true) (hk : k res) : CallD (EV C) f args h k ⟨⟩ := CallD.of_own (E := EV C) hf h1 h2 h3 h4 hk
theorem calo {C : Ctx} {f : Nat} {args args' : List SV} {res : SV} {st : St} {K : St → SV → Prop} (h : FnC Tryz.prog f args' res) (he : args.map (pureOS (frzH st.h (idsS args))) = args') (hfree : args'.all freeS = true) (hres : res.all.all isWS = true) (k : K ⟨st.t, frzH st.h (idsS args) ++ adG (fun _ => none) 0 res.all⟩ (adS (frzH st.h (idsS args)).length res)) : CallT (EV C) f args st K ⟨⟩ := ⟨CallS.lendF (E := EV C) h he hfree hres k⟩
theorem cali {C : Ctx} {f ty sz id : Nat} {rows rows' : List (List D)} {args' rest : List SV} {st : St} {K : St → SV → Prop} (h : FnI Tryz.prog f ty sz rows args' false rows') (hid : nthH (frzH st.h (idsS rest)) id = .row ty sz rows true) (he : rest.map (pureS (frzH st.h (idsS rest))) = args') (hfree : args'.all freeS = true) (k : K ⟨st.t.map (killS id), setH ((frzH st.h (idsS rest)).map (killB id)) id (.row ty sz rows' true)⟩ (.o (.s id))) : CallT (EV C) f (.o (.s id) :: rest) st K ⟨⟩ := ⟨CallS.give (E := EV C) h hid he hfree (by simpa using k)⟩
theorem calj {C : Ctx} {f ty sz id : Nat} {rows rows' : List (List D)} {args' rest : List SV} {st : St} {K : St → SV → Prop} (h : FnI Tryz.prog f ty sz rows args' true rows') (hid : nthH (frzH st.h (idsS rest)) id = .row ty sz rows true) (he : rest.map (pureS (frzH st.h (idsS rest))) = args') (hfree : args'.all freeS = true) (k : K ⟨st.t, setH (frzH st.h (idsS rest)) id (.row ty sz rows' true)⟩ (.t [])) : CallT (EV C) f (.o (.s id) :: rest) st K ⟨⟩ := ⟨CallS.give (E := EV C) h hid he hfree (by simpa using k)⟩
theorem cale {C : Ctx} {f : Nat} {args args' : List SV} {res : SV} {st : St} {K : St → SV → Prop} (h : FnC Tryz.prog f args' res) (he : args.map (pureOS st.h) = args') (hfree : args'.all freeS = true) (hres : res.all.all isWS = true) (k : K ⟨st.t, st.h ++ adG (fun _ => none) 0 res.all⟩ (adS st.h.length res)) : CallT (EV C) f args st K ⟨⟩ := ⟨CallS.lend (E := EV C) h he hfree hres k⟩
theorem regx {C : Ctx} {id : Nat} {ops l : List Oper} {F : Ex → St → Prop} {st : St} (hl : bodyX ops = l) (hB : lexX .any ops (bodyX ops).length (bodyX ops).length 0 (Array.replicate ops.length false) = true) (hb : backX .any ops (bodyX ops).length = true) (hn : (ops.any fun o => match o.op with | .buildSlice .. | .alloc .. | .store .. => true | .call c => (match c.callee with | .builtin .append => true | _ => false) | _ => false) = true) (hok : st.okB = true) (htag : (st.t.all fun s => !tagS s) = true) (h : vcXRun (EV C) ops l st (fun st' => vcXEnd (EV C) ops st' (F .normal) ⟨⟩) ⟨⟩) : WP Tryz.prog C (.region id ops.toArray true) F st := by
 subst hl
 have e : (fun st' => vcXEnd (EV C) ops st' (F .normal) ⟨⟩) = (fun st' => vcOps (EV C) ops (tailX ops) (finX (EV C) ops st') (F .normal)) := funext fun s => propext ⟨fun h => h.out, fun h => ⟨h⟩⟩
 rw [e] at h
 exact WP_drawX (E := EV C) ttOK eqOK fol hB hb hok htag h.out
theorem calx {C : Ctx} {f : Nat} {args args' : List SV} {res : SV} {h : List HB} {k : SV → Prop} (hf : FnC Tryz.prog f args' res) (h1 : args.map (pureS h) = args') (h2 : args'.all freeS = true) (ht : tagS res = true) (hk : k (liftS res)) : CallX (EV C) f args h k ⟨⟩ := ⟨.inr ⟨args', res, hf, h1, h2, ht, hk⟩⟩
theorem caldx {C : Ctx} {f : Nat} {args args' : List SV} {res : SV} {h : List HB} {k : SV → Prop} (hf : FnC Tryz.prog f args' res) (h1 : args.map (pureS h) = args') (h2 : args'.all freeS = true) (h3 : res.all.all isD = true) (hk : k res) : CallX (EV C) f args h k ⟨⟩ := ⟨.inl (CallD.of_fn (E := EV C) hf h1 h2 h3 hk)⟩
theorem cA {C : Ctx} {f : Nat} {args args' : List SV} {res : SV} {st : St} {K : St → SV → Prop} (h : FnC Tryz.prog f args' res) (o : args.map (pureS (frzH st.h (idsS args))) = args' ∧ args'.all freeS = true) (k : Nm (K ⟨st.t, frzH st.h (idsS args) ++ adH res.all⟩ (adS (frzH st.h (idsS args)).length res))) : CallT (EV C) f args st K ⟨⟩ := cal h o.1 o.2 k
theorem cD {C : Ctx} {f : Nat} {args args' : List SV} {res : SV} {h : List HB} {k : SV → Prop} (hf : FnC Tryz.prog f args' res) (o : (args.map (pureS h) = args' ∧ args'.all freeS = true) ∧ res.all.all isD = true) (hk : Nm (k res)) : CallD (EV C) f args h k ⟨⟩ := cald hf o.1.1 o.1.2 o.2 hk
theorem cX {C : Ctx} {f : Nat} {args args' : List SV} {res : SV} {h : List HB} {k : SV → Prop} (hf : FnC Tryz.prog f args' res) (o : (args.map (pureS h) = args' ∧ args'.all freeS = true) ∧ tagS res = true) (hk : Nm (k (liftS res))) : CallX (EV C) f args h k ⟨⟩ := calx hf o.1.1 o.1.2 o.2 hk
theorem cY {C : Ctx} {f : Nat} {args args' : List SV} {res : SV} {h : List HB} {k : SV → Prop} (hf : FnC Tryz.prog f args' res) (o : (args.map (pureS h) = args' ∧ args'.all freeS = true) ∧ res.all.all isD = true) (hk : Nm (k res)) : CallX (EV C) f args h k ⟨⟩ := caldx hf o.1.1 o.1.2 o.2 hk
theorem calr {C : Ctx} {f ty sz : Nat} {rows : List (List D)} {args args' : List SV} {st : St} {K : St → SV → Prop} (h : FnC Tryz.prog f args' (.o (.w ty sz rows))) (he : args.map (pureOS st.h) = args') (hfree : args'.all freeS = true) (hflat : flatB rows = true) (k : K ⟨st.t, st.h ++ [.row ty sz rows true]⟩ (.o (.s st.h.length))) : CallT (EV C) f args st K ⟨⟩ := ⟨CallS.lendR (E := EV C) h he hfree hflat k⟩
theorem rS {C : Ctx} {id : Nat} {ops l m : List Oper} {F : Ex → St → Prop} {st : St} (ps ds : List Nat) (hl : rdX ds ops = l) (hm : noSt ops = m) (hok : (okStX ops ps ds && upPs ps ops && ps.all fun i => decide (i < ops.length)) = true) (hb : st.okB = true) (h : vcGRun (EV C) ds ops m st (fun st1 => vcStT (EV C) ops l ds ps ⟨st1.t, st.h⟩ (F .normal) ⟨⟩) ⟨⟩) : WP Tryz.prog C (.region id ops.toArray true) F st := by
 subst hl hm
 have e : (fun st1 : St => vcStT (EV C) ops (rdX ds ops) ds ps ⟨st1.t, st.h⟩ (F .normal) ⟨⟩) = (fun st1 => vcStI (EV C) ops ds ps ⟨st1.t, st.h⟩ (F .normal)) := funext fun s => propext ⟨fun h => h.out rfl, fun h => ⟨fun _ => h⟩⟩
 rw [e] at h
 simp only [Bool.and_eq_true] at hok
 exact WP_stores (E := EV C) ttOK eqOK fol ps ds hok.1.1 hok.1.2 hok.2 hb h.out
theorem cG {C : Ctx} {f : Nat} {args args' : List SV} {res : SV} {h : List HB} {k : List HB → SV → Prop} (hf : FnC Tryz.prog f args' res) (o : args.map (pureS (frzH h (idsS args))) = args' ∧ args'.all freeS = true) (hk : Nm (k (frzH h (idsS args) ++ adH res.all) (adS (frzH h (idsS args)).length res))) : CallG (EV C) f args h k ⟨⟩ := CallG.frz (E := EV C) hf o.1 o.2 hk
theorem cGr {C : Ctx} {f ty sz : Nat} {rows : List (List D)} {args args' : List SV} {h : List HB} {k : List HB → SV → Prop} (hf : FnC Tryz.prog f args' (.o (.w ty sz rows))) (he : args.map (pureOS h) = args') (hfree : args'.all freeS = true) (hflat : flatB rows = true) (hk : k (h ++ [.row ty sz rows true]) (.o (.s h.length))) : CallG (EV C) f args h k ⟨⟩ := CallG.lendR (E := EV C) hf he hfree hflat hk
theorem cDr {C : Ctx} {f ty sz : Nat} {rows : List (List D)} {args args' : List SV} {h : List HB} {k : SV → Prop} (hf : FnC Tryz.prog f args' (.o (.w ty sz rows))) (h1 : args.map (pureOS h) = args') (h2 : args'.all freeS = true) (h3 : flatB rows = true) (hk : k (.o (.d (.sl rows)))) : CallD (EV C) f args h k ⟨⟩ := CallD.of_lend (E := EV C) hf h1 h2 h3 hk
end Go.Proofs.YtdgeoalhmmfgnaaGreat
