/-
  The table of this translation's types, by program (gentypes.py), and that it is what the program says.
-/
import Derived.Test.YtgglopecipbbfaaGreatProg
import Derived.Test.YtgglopecipbbfaaGreatL3
import Derived.Test.YtgglopecipbbfaaGreatL5
import Derived.KernelRfl
set_option linter.all false
namespace Go.Proofs.YtgglopecipbbfaaGreat
open Go Go.Sx Go.RowKit

noncomputable def ttl : List Ty := [.bad,
  .bad,
  ⟨3, 1, 8, [.d (.v (.int .i64 0))], [], 0, .i64⟩,
  ⟨3, 1, 8, [.d (.v (.int .i64 0))], [], 0, .i64⟩,
  ⟨4, 1, 1, [.d (.v (.bool false))], [], 0, .i64⟩,
  ⟨3, 1, 1, [.d (.v (.int .u8 0))], [], 0, .u8⟩,
  ⟨3, 1, 1, [.d (.v (.int .u8 0))], [], 0, .u8⟩,
  ⟨1, 4, 24, [.d (.v (.int .i64 0)), .d (.v (.int .i64 0)), .d (.v (.bool false)), .d (.v (.int .u8 0))], [(0, 2), (1, 3), (2, 4), (3, 6)], 0, .i64⟩,
  ⟨1, 4, 24, [.d (.v (.int .i64 0)), .d (.v (.int .i64 0)), .d (.v (.bool false)), .d (.v (.int .u8 0))], [(0, 2), (1, 3), (2, 4), (3, 6)], 0, .i64⟩,
  ⟨5, 1, 16, [.d (.v (.string ⟨#[]⟩))], [], 0, .i64⟩,
  ⟨5, 1, 16, [.d (.v (.string ⟨#[]⟩))], [], 0, .i64⟩,
  ⟨5, 1, 16, [.d (.v (.string ⟨#[]⟩))], [], 0, .i64⟩,
  .bad,
  .bad,
  .bad,
  .bad,
  .bad,
  .bad,
  .bad,
  .bad,
  .bad,
  .bad,
  ⟨2, 1, 24, [.z], [], 188, .i64⟩,
  ⟨2, 1, 24, [.z], [], 64, .i64⟩,
  ⟨1, 3, 56, [.z, .z, .d (.v (.int .i64 0))], [(0, 22), (1, 23), (2, 3)], 0, .i64⟩,
  ⟨1, 3, 56, [.z, .z, .d (.v (.int .i64 0))], [(0, 22), (1, 23), (2, 3)], 0, .i64⟩,
  ⟨2, 1, 24, [.z], [], 88, .i64⟩,
  ⟨2, 1, 24, [.z], [], 120, .i64⟩,
  ⟨2, 1, 24, [.z], [], 9, .i64⟩,
  .bad,
  .bad,
  .bad,
  .bad,
  ⟨2, 1, 24, [.z], [], 125, .i64⟩,
  .bad,
  .bad,
  ⟨2, 1, 24, [.z], [], 193, .i64⟩,
  ⟨2, 1, 24, [.z], [], 73, .i64⟩,
  ⟨1, 3, 56, [.z, .z, .d (.v (.int .i64 0))], [(0, 36), (1, 37), (2, 3)], 0, .i64⟩,
  ⟨1, 3, 56, [.z, .z, .d (.v (.int .i64 0))], [(0, 36), (1, 37), (2, 3)], 0, .i64⟩,
  .bad,
  ⟨2, 1, 24, [.z], [], 93, .i64⟩,
  .bad,
  .bad,
  .bad,
  .bad,
  .bad,
  .bad,
  .bad,
  .bad,
  .bad,
  .bad,
  .bad,
  ⟨1, 5, 104, [.z, .z, .d (.v (.int .i64 0)), .z, .z], [(0, 39), (3, 41), (4, 33)], 0, .i64⟩,
  ⟨1, 5, 104, [.z, .z, .d (.v (.int .i64 0)), .z, .z], [(0, 39), (3, 41), (4, 33)], 0, .i64⟩,
  .bad,
  .bad,
  .bad,
  .bad,
  .bad,
  ⟨1, 5, 104, [.z, .z, .d (.v (.int .i64 0)), .z, .z], [(0, 25), (3, 26), (4, 27)], 0, .i64⟩,
  ⟨1, 5, 104, [.z, .z, .d (.v (.int .i64 0)), .z, .z], [(0, 25), (3, 26), (4, 27)], 0, .i64⟩,
  ⟨2, 1, 24, [.z], [], 208, .i64⟩,
  ⟨1, 5, 56, [.d (.v (.int .i64 0)), .d (.v (.int .i64 0)), .d (.v (.bool false)), .d (.v (.int .i64 0)), .z], [(0, 3), (1, 3), (2, 4), (3, 3), (4, 62)], 0, .i64⟩,
  ⟨1, 5, 56, [.d (.v (.int .i64 0)), .d (.v (.int .i64 0)), .d (.v (.bool false)), .d (.v (.int .i64 0)), .z], [(0, 3), (1, 3), (2, 4), (3, 3), (4, 62)], 0, .i64⟩,
  .bad,
  .bad,
  ⟨2, 1, 24, [.z], [], 158, .i64⟩,
  .bad,
  .bad,
  .bad,
  ⟨2, 1, 24, [.z], [], 185, .i64⟩,
  ⟨1, 5, 56, [.d (.v (.int .i64 0)), .d (.v (.int .i64 0)), .d (.v (.bool false)), .d (.v (.int .i64 0)), .z], [(0, 3), (1, 3), (2, 4), (3, 3), (4, 71)], 0, .i64⟩,
  ⟨1, 5, 56, [.d (.v (.int .i64 0)), .d (.v (.int .i64 0)), .d (.v (.bool false)), .d (.v (.int .i64 0)), .z], [(0, 3), (1, 3), (2, 4), (3, 3), (4, 71)], 0, .i64⟩,
  .bad,
  .bad,
  .bad,
  .bad,
  .bad,
  .bad,
  .bad,
  .bad,
  .bad,
  .bad,
  .bad,
  .bad,
  ⟨2, 1, 24, [.z], [], 215, .i64⟩,
  ⟨1, 2, 40, [.d (.v (.string ⟨#[]⟩)), .z], [(0, 9), (1, 86)], 0, .i64⟩,
  ⟨1, 2, 40, [.d (.v (.string ⟨#[]⟩)), .z], [(0, 9), (1, 86)], 0, .i64⟩,
  .bad,
  .bad,
  ⟨2, 1, 24, [.z], [], 199, .i64⟩,
  ⟨1, 2, 40, [.d (.v (.string ⟨#[]⟩)), .z], [(0, 9), (1, 91)], 0, .i64⟩,
  ⟨1, 2, 40, [.d (.v (.string ⟨#[]⟩)), .z], [(0, 9), (1, 91)], 0, .i64⟩,
  .bad,
  .bad,
  .bad,
  .bad,
  .bad,
  .bad,
  ⟨1, 9, 112, [.d (.v (.int .i64 0)), .d (.v (.int .i64 0)), .d (.v (.int .i64 0)), .d (.v (.bool false)), .d (.v (.int .i64 0)), .z, .d (.v (.int .i64 0)), .d (.v (.string ⟨#[]⟩)), .z], [(0, 3), (1, 64), (6, 3), (7, 88)], 0, .i64⟩,
  ⟨1, 9, 112, [.d (.v (.int .i64 0)), .d (.v (.int .i64 0)), .d (.v (.int .i64 0)), .d (.v (.bool false)), .d (.v (.int .i64 0)), .z, .d (.v (.int .i64 0)), .d (.v (.string ⟨#[]⟩)), .z], [(0, 3), (1, 64), (6, 3), (7, 88)], 0, .i64⟩,
  .bad,
  .bad,
  ⟨1, 9, 112, [.d (.v (.int .i64 0)), .d (.v (.int .i64 0)), .d (.v (.int .i64 0)), .d (.v (.bool false)), .d (.v (.int .i64 0)), .z, .d (.v (.int .i64 0)), .d (.v (.string ⟨#[]⟩)), .z], [(0, 3), (1, 73), (6, 3), (7, 93)], 0, .i64⟩,
  ⟨1, 9, 112, [.d (.v (.int .i64 0)), .d (.v (.int .i64 0)), .d (.v (.int .i64 0)), .d (.v (.bool false)), .d (.v (.int .i64 0)), .z, .d (.v (.int .i64 0)), .d (.v (.string ⟨#[]⟩)), .z], [(0, 3), (1, 73), (6, 3), (7, 93)], 0, .i64⟩,
  .bad,
  .bad,
  .bad,
  .bad,
  .bad,
  .bad,
  .bad,
  .bad,
  .bad,
  .bad,
  .bad,
  .bad,
  ⟨2, 1, 24, [.z], [], 3, .i64⟩,
  ⟨1, 2, 40, [.d (.v (.string ⟨#[]⟩)), .z], [(0, 9), (1, 118)], 0, .i64⟩,
  ⟨1, 2, 40, [.d (.v (.string ⟨#[]⟩)), .z], [(0, 9), (1, 118)], 0, .i64⟩,
  .bad,
  .bad,
  .bad,
  .bad,
  ⟨1, 2, 40, [.d (.v (.string ⟨#[]⟩)), .z], [(0, 9), (1, 118)], 0, .i64⟩,
  .bad,
  .bad,
  .bad,
  .bad,
  .bad,
  .bad,
  .bad,
  .bad,
  .bad,
  .bad,
  .bad,
  .bad,
  .bad,
  .bad,
  .bad,
  .bad,
  .bad,
  .bad,
  .bad,
  .bad,
  .bad,
  .bad,
  .bad,
  .bad,
  .bad,
  .bad,
  .bad,
  .bad,
  .bad,
  .bad,
  .bad,
  ⟨1, 3, 64, [.d (.v (.string ⟨#[]⟩)), .z, .z], [(0, 9), (1, 118), (2, 118)], 0, .i64⟩,
  ⟨1, 3, 64, [.d (.v (.string ⟨#[]⟩)), .z, .z], [(0, 9), (1, 118), (2, 118)], 0, .i64⟩,
  .bad,
  .bad,
  .bad,
  .bad,
  .bad,
  .bad,
  .bad,
  .bad,
  .bad,
  .bad,
  .bad,
  .bad,
  .bad,
  .bad,
  .bad,
  .bad,
  ⟨1, 3, 32, [.d (.v (.int .i64 0)), .d (.v (.int .i64 0)), .d (.v (.string ⟨#[]⟩))], [(0, 3), (1, 3), (2, 9)], 0, .i64⟩,
  ⟨1, 3, 32, [.d (.v (.int .i64 0)), .d (.v (.int .i64 0)), .d (.v (.string ⟨#[]⟩))], [(0, 3), (1, 3), (2, 9)], 0, .i64⟩,
  .bad,
  .bad,
  .bad,
  .bad,
  .bad,
  .bad,
  .bad,
  ⟨1, 4, 48, [.d (.v (.string ⟨#[]⟩)), .d (.v (.int .i64 0)), .d (.v (.int .i64 0)), .d (.v (.string ⟨#[]⟩))], [(0, 9), (1, 176)], 0, .i64⟩,
  ⟨1, 4, 48, [.d (.v (.string ⟨#[]⟩)), .d (.v (.int .i64 0)), .d (.v (.int .i64 0)), .d (.v (.string ⟨#[]⟩))], [(0, 9), (1, 176)], 0, .i64⟩,
  .bad,
  ⟨1, 2, 24, [.d (.v (.string ⟨#[]⟩)), .d (.v (.int .i64 0))], [(0, 9), (1, 3)], 0, .i64⟩,
  ⟨1, 2, 24, [.d (.v (.string ⟨#[]⟩)), .d (.v (.int .i64 0))], [(0, 9), (1, 3)], 0, .i64⟩,
  .bad,
  .bad,
  .bad,
  .bad,
  ⟨1, 2, 24, [.d (.v (.string ⟨#[]⟩)), .d (.v (.int .i64 0))], [(0, 9), (1, 3)], 0, .i64⟩,
  .bad,
  .bad,
  .bad,
  ⟨2, 1, 24, [.z], [], 5, .i64⟩,
  ⟨1, 7, 72, [.d (.v (.int .i64 0)), .d (.v (.int .i64 0)), .d (.v (.int .i64 0)), .d (.v (.string ⟨#[]⟩)), .d (.v (.int .i64 0)), .d (.v (.int .i64 0)), .d (.v (.string ⟨#[]⟩))], [(0, 3), (1, 3), (2, 3), (3, 9), (4, 176)], 0, .i64⟩,
  ⟨1, 7, 72, [.d (.v (.int .i64 0)), .d (.v (.int .i64 0)), .d (.v (.int .i64 0)), .d (.v (.string ⟨#[]⟩)), .d (.v (.int .i64 0)), .d (.v (.int .i64 0)), .d (.v (.string ⟨#[]⟩))], [(0, 3), (1, 3), (2, 3), (3, 9), (4, 176)], 0, .i64⟩,
  .bad,
  .bad,
  .bad,
  .bad,
  .bad,
  .bad,
  ⟨1, 3, 32, [.d (.v (.int .i64 0)), .d (.v (.int .i64 0)), .d (.v (.string ⟨#[]⟩))], [(0, 3), (1, 3), (2, 9)], 0, .i64⟩,
  ⟨1, 4, 48, [.d (.v (.string ⟨#[]⟩)), .d (.v (.int .i64 0)), .d (.v (.int .i64 0)), .d (.v (.string ⟨#[]⟩))], [(0, 9), (1, 206)], 0, .i64⟩,
  ⟨1, 4, 48, [.d (.v (.string ⟨#[]⟩)), .d (.v (.int .i64 0)), .d (.v (.int .i64 0)), .d (.v (.string ⟨#[]⟩))], [(0, 9), (1, 206)], 0, .i64⟩,
  .bad,
  .bad,
  .bad,
  .bad,
  .bad,
  ⟨1, 7, 72, [.d (.v (.int .i64 0)), .d (.v (.int .i64 0)), .d (.v (.int .i64 0)), .d (.v (.string ⟨#[]⟩)), .d (.v (.int .i64 0)), .d (.v (.int .i64 0)), .d (.v (.string ⟨#[]⟩))], [(0, 3), (1, 3), (2, 3), (3, 9), (4, 206)], 0, .i64⟩,
  ⟨1, 7, 72, [.d (.v (.int .i64 0)), .d (.v (.int .i64 0)), .d (.v (.int .i64 0)), .d (.v (.string ⟨#[]⟩)), .d (.v (.int .i64 0)), .d (.v (.int .i64 0)), .d (.v (.string ⟨#[]⟩))], [(0, 3), (1, 3), (2, 3), (3, 9), (4, 206)], 0, .i64⟩,
  .bad,
  .bad,
  .bad,
  .bad,
  .bad,
  .bad,
  .bad,
  .bad,
  .bad,
  .bad,
  .bad,
  .bad,
  .bad,
  .bad,
  .bad,
  .bad,
  .bad,
  .bad,
  ⟨1, 2, 32, [.d (.v (.bool false)), .z], [(0, 4), (1, 71)], 0, .i64⟩,
  ⟨1, 2, 32, [.d (.v (.bool false)), .z], [(0, 4), (1, 71)], 0, .i64⟩,
  .bad,
  .bad,
  .bad,
  .bad,
  .bad,
  .bad,
  .bad,
  .bad,
  .bad,
  .bad,
  .bad,
  .bad,
  .bad,
  .bad,
  .bad,
  .bad,
  .bad,
  .bad,
  .bad,
  .bad,
  .bad,
  .bad,
  .bad,
  .bad,
  .bad,
  .bad,
  .bad,
  .bad,
  .bad,
  .bad,
  .bad,
  .bad,
  .bad,
  .bad,
  .bad,
  .bad,
  .bad,
  .bad,
  .bad,
  .bad,
  .bad,
  .bad,
  .bad,
  .bad,
  .bad,
  ⟨2, 1, 24, [.z], [], 4, .i64⟩,
  .bad,
  .bad,
  .bad,
  .bad,
  .bad,
  .bad,
  ⟨3, 1, 8, [.d (.v (.int .i64 0))], [], 0, .i64⟩,
  .bad,
  .bad,
  .bad,
  .bad,
  .bad,
  .bad,
  .bad,
  .bad,
  .bad,
  .bad,
  .bad,
  .bad,
  .bad,
  .bad,
  .bad,
  .bad,
  .bad,
  .bad,
  .bad,
  .bad,
  .bad,
  .bad,
  .bad,
  .bad,
  .bad,
  .bad,
  .bad,
  .bad,
  ⟨3, 1, 1, [.d (.v (.int .u8 0))], [], 0, .u8⟩,
  ⟨3, 1, 1, [.d (.v (.int .u8 0))], [], 0, .u8⟩,
  .bad,
  .bad,
  .bad,
  .bad,
  .bad,
  .bad,
  .bad]
noncomputable def tt : Nat → Ty := fun t => ttl.getD t .bad
theorem ttOK : TyOK Tryz.prog tt := TyOK.of_list (by kernel_rfl)
theorem tts : tt 2 = ⟨3, 1, 8, [.d (.v (.int .i64 0))], [], 0, .i64⟩ ∧ tt 3 = ⟨3, 1, 8, [.d (.v (.int .i64 0))], [], 0, .i64⟩ ∧ tt 4 = ⟨4, 1, 1, [.d (.v (.bool false))], [], 0, .i64⟩ ∧ tt 5 = ⟨3, 1, 1, [.d (.v (.int .u8 0))], [], 0, .u8⟩ ∧ tt 6 = ⟨3, 1, 1, [.d (.v (.int .u8 0))], [], 0, .u8⟩ ∧ tt 7 = ⟨1, 4, 24, [.d (.v (.int .i64 0)), .d (.v (.int .i64 0)), .d (.v (.bool false)), .d (.v (.int .u8 0))], [(0, 2), (1, 3), (2, 4), (3, 6)], 0, .i64⟩ ∧ tt 8 = ⟨1, 4, 24, [.d (.v (.int .i64 0)), .d (.v (.int .i64 0)), .d (.v (.bool false)), .d (.v (.int .u8 0))], [(0, 2), (1, 3), (2, 4), (3, 6)], 0, .i64⟩ ∧ tt 9 = ⟨5, 1, 16, [.d (.v (.string ⟨#[]⟩))], [], 0, .i64⟩ ∧ tt 10 = ⟨5, 1, 16, [.d (.v (.string ⟨#[]⟩))], [], 0, .i64⟩ ∧ tt 11 = ⟨5, 1, 16, [.d (.v (.string ⟨#[]⟩))], [], 0, .i64⟩ ∧ tt 22 = ⟨2, 1, 24, [.z], [], 188, .i64⟩ ∧ tt 23 = ⟨2, 1, 24, [.z], [], 64, .i64⟩ ∧ tt 24 = ⟨1, 3, 56, [.z, .z, .d (.v (.int .i64 0))], [(0, 22), (1, 23), (2, 3)], 0, .i64⟩ ∧ tt 25 = ⟨1, 3, 56, [.z, .z, .d (.v (.int .i64 0))], [(0, 22), (1, 23), (2, 3)], 0, .i64⟩ ∧ tt 26 = ⟨2, 1, 24, [.z], [], 88, .i64⟩ ∧ tt 27 = ⟨2, 1, 24, [.z], [], 120, .i64⟩ ∧ tt 28 = ⟨2, 1, 24, [.z], [], 9, .i64⟩ ∧ tt 33 = ⟨2, 1, 24, [.z], [], 125, .i64⟩ ∧ tt 36 = ⟨2, 1, 24, [.z], [], 193, .i64⟩ ∧ tt 37 = ⟨2, 1, 24, [.z], [], 73, .i64⟩ ∧ tt 38 = ⟨1, 3, 56, [.z, .z, .d (.v (.int .i64 0))], [(0, 36), (1, 37), (2, 3)], 0, .i64⟩ ∧ tt 39 = ⟨1, 3, 56, [.z, .z, .d (.v (.int .i64 0))], [(0, 36), (1, 37), (2, 3)], 0, .i64⟩ ∧ tt 41 = ⟨2, 1, 24, [.z], [], 93, .i64⟩ ∧ tt 53 = ⟨1, 5, 104, [.z, .z, .d (.v (.int .i64 0)), .z, .z], [(0, 39), (3, 41), (4, 33)], 0, .i64⟩ ∧ tt 54 = ⟨1, 5, 104, [.z, .z, .d (.v (.int .i64 0)), .z, .z], [(0, 39), (3, 41), (4, 33)], 0, .i64⟩ ∧ tt 60 = ⟨1, 5, 104, [.z, .z, .d (.v (.int .i64 0)), .z, .z], [(0, 25), (3, 26), (4, 27)], 0, .i64⟩ ∧ tt 61 = ⟨1, 5, 104, [.z, .z, .d (.v (.int .i64 0)), .z, .z], [(0, 25), (3, 26), (4, 27)], 0, .i64⟩ ∧ tt 62 = ⟨2, 1, 24, [.z], [], 208, .i64⟩ ∧ tt 63 = ⟨1, 5, 56, [.d (.v (.int .i64 0)), .d (.v (.int .i64 0)), .d (.v (.bool false)), .d (.v (.int .i64 0)), .z], [(0, 3), (1, 3), (2, 4), (3, 3), (4, 62)], 0, .i64⟩ ∧ tt 64 = ⟨1, 5, 56, [.d (.v (.int .i64 0)), .d (.v (.int .i64 0)), .d (.v (.bool false)), .d (.v (.int .i64 0)), .z], [(0, 3), (1, 3), (2, 4), (3, 3), (4, 62)], 0, .i64⟩ ∧ tt 67 = ⟨2, 1, 24, [.z], [], 158, .i64⟩ ∧ tt 71 = ⟨2, 1, 24, [.z], [], 185, .i64⟩ ∧ tt 72 = ⟨1, 5, 56, [.d (.v (.int .i64 0)), .d (.v (.int .i64 0)), .d (.v (.bool false)), .d (.v (.int .i64 0)), .z], [(0, 3), (1, 3), (2, 4), (3, 3), (4, 71)], 0, .i64⟩ ∧ tt 73 = ⟨1, 5, 56, [.d (.v (.int .i64 0)), .d (.v (.int .i64 0)), .d (.v (.bool false)), .d (.v (.int .i64 0)), .z], [(0, 3), (1, 3), (2, 4), (3, 3), (4, 71)], 0, .i64⟩ ∧ tt 86 = ⟨2, 1, 24, [.z], [], 215, .i64⟩ ∧ tt 87 = ⟨1, 2, 40, [.d (.v (.string ⟨#[]⟩)), .z], [(0, 9), (1, 86)], 0, .i64⟩ ∧ tt 88 = ⟨1, 2, 40, [.d (.v (.string ⟨#[]⟩)), .z], [(0, 9), (1, 86)], 0, .i64⟩ ∧ tt 91 = ⟨2, 1, 24, [.z], [], 199, .i64⟩ ∧ tt 92 = ⟨1, 2, 40, [.d (.v (.string ⟨#[]⟩)), .z], [(0, 9), (1, 91)], 0, .i64⟩ ∧ tt 93 = ⟨1, 2, 40, [.d (.v (.string ⟨#[]⟩)), .z], [(0, 9), (1, 91)], 0, .i64⟩ ∧ tt 100 = ⟨1, 9, 112, [.d (.v (.int .i64 0)), .d (.v (.int .i64 0)), .d (.v (.int .i64 0)), .d (.v (.bool false)), .d (.v (.int .i64 0)), .z, .d (.v (.int .i64 0)), .d (.v (.string ⟨#[]⟩)), .z], [(0, 3), (1, 64), (6, 3), (7, 88)], 0, .i64⟩ ∧ tt 101 = ⟨1, 9, 112, [.d (.v (.int .i64 0)), .d (.v (.int .i64 0)), .d (.v (.int .i64 0)), .d (.v (.bool false)), .d (.v (.int .i64 0)), .z, .d (.v (.int .i64 0)), .d (.v (.string ⟨#[]⟩)), .z], [(0, 3), (1, 64), (6, 3), (7, 88)], 0, .i64⟩ ∧ tt 104 = ⟨1, 9, 112, [.d (.v (.int .i64 0)), .d (.v (.int .i64 0)), .d (.v (.int .i64 0)), .d (.v (.bool false)), .d (.v (.int .i64 0)), .z, .d (.v (.int .i64 0)), .d (.v (.string ⟨#[]⟩)), .z], [(0, 3), (1, 73), (6, 3), (7, 93)], 0, .i64⟩ ∧ tt 105 = ⟨1, 9, 112, [.d (.v (.int .i64 0)), .d (.v (.int .i64 0)), .d (.v (.int .i64 0)), .d (.v (.bool false)), .d (.v (.int .i64 0)), .z, .d (.v (.int .i64 0)), .d (.v (.string ⟨#[]⟩)), .z], [(0, 3), (1, 73), (6, 3), (7, 93)], 0, .i64⟩ ∧ tt 118 = ⟨2, 1, 24, [.z], [], 3, .i64⟩ ∧ tt 119 = ⟨1, 2, 40, [.d (.v (.string ⟨#[]⟩)), .z], [(0, 9), (1, 118)], 0, .i64⟩ ∧ tt 120 = ⟨1, 2, 40, [.d (.v (.string ⟨#[]⟩)), .z], [(0, 9), (1, 118)], 0, .i64⟩ ∧ tt 125 = ⟨1, 2, 40, [.d (.v (.string ⟨#[]⟩)), .z], [(0, 9), (1, 118)], 0, .i64⟩ ∧ tt 157 = ⟨1, 3, 64, [.d (.v (.string ⟨#[]⟩)), .z, .z], [(0, 9), (1, 118), (2, 118)], 0, .i64⟩ ∧ tt 158 = ⟨1, 3, 64, [.d (.v (.string ⟨#[]⟩)), .z, .z], [(0, 9), (1, 118), (2, 118)], 0, .i64⟩ ∧ tt 175 = ⟨1, 3, 32, [.d (.v (.int .i64 0)), .d (.v (.int .i64 0)), .d (.v (.string ⟨#[]⟩))], [(0, 3), (1, 3), (2, 9)], 0, .i64⟩ ∧ tt 176 = ⟨1, 3, 32, [.d (.v (.int .i64 0)), .d (.v (.int .i64 0)), .d (.v (.string ⟨#[]⟩))], [(0, 3), (1, 3), (2, 9)], 0, .i64⟩ ∧ tt 184 = ⟨1, 4, 48, [.d (.v (.string ⟨#[]⟩)), .d (.v (.int .i64 0)), .d (.v (.int .i64 0)), .d (.v (.string ⟨#[]⟩))], [(0, 9), (1, 176)], 0, .i64⟩ ∧ tt 185 = ⟨1, 4, 48, [.d (.v (.string ⟨#[]⟩)), .d (.v (.int .i64 0)), .d (.v (.int .i64 0)), .d (.v (.string ⟨#[]⟩))], [(0, 9), (1, 176)], 0, .i64⟩ ∧ tt 187 = ⟨1, 2, 24, [.d (.v (.string ⟨#[]⟩)), .d (.v (.int .i64 0))], [(0, 9), (1, 3)], 0, .i64⟩ ∧ tt 188 = ⟨1, 2, 24, [.d (.v (.string ⟨#[]⟩)), .d (.v (.int .i64 0))], [(0, 9), (1, 3)], 0, .i64⟩ ∧ tt 193 = ⟨1, 2, 24, [.d (.v (.string ⟨#[]⟩)), .d (.v (.int .i64 0))], [(0, 9), (1, 3)], 0, .i64⟩ ∧ tt 197 = ⟨2, 1, 24, [.z], [], 5, .i64⟩ ∧ tt 198 = ⟨1, 7, 72, [.d (.v (.int .i64 0)), .d (.v (.int .i64 0)), .d (.v (.int .i64 0)), .d (.v (.string ⟨#[]⟩)), .d (.v (.int .i64 0)), .d (.v (.int .i64 0)), .d (.v (.string ⟨#[]⟩))], [(0, 3), (1, 3), (2, 3), (3, 9), (4, 176)], 0, .i64⟩ ∧ tt 199 = ⟨1, 7, 72, [.d (.v (.int .i64 0)), .d (.v (.int .i64 0)), .d (.v (.int .i64 0)), .d (.v (.string ⟨#[]⟩)), .d (.v (.int .i64 0)), .d (.v (.int .i64 0)), .d (.v (.string ⟨#[]⟩))], [(0, 3), (1, 3), (2, 3), (3, 9), (4, 176)], 0, .i64⟩ ∧ tt 206 = ⟨1, 3, 32, [.d (.v (.int .i64 0)), .d (.v (.int .i64 0)), .d (.v (.string ⟨#[]⟩))], [(0, 3), (1, 3), (2, 9)], 0, .i64⟩ ∧ tt 207 = ⟨1, 4, 48, [.d (.v (.string ⟨#[]⟩)), .d (.v (.int .i64 0)), .d (.v (.int .i64 0)), .d (.v (.string ⟨#[]⟩))], [(0, 9), (1, 206)], 0, .i64⟩ ∧ tt 208 = ⟨1, 4, 48, [.d (.v (.string ⟨#[]⟩)), .d (.v (.int .i64 0)), .d (.v (.int .i64 0)), .d (.v (.string ⟨#[]⟩))], [(0, 9), (1, 206)], 0, .i64⟩ ∧ tt 214 = ⟨1, 7, 72, [.d (.v (.int .i64 0)), .d (.v (.int .i64 0)), .d (.v (.int .i64 0)), .d (.v (.string ⟨#[]⟩)), .d (.v (.int .i64 0)), .d (.v (.int .i64 0)), .d (.v (.string ⟨#[]⟩))], [(0, 3), (1, 3), (2, 3), (3, 9), (4, 206)], 0, .i64⟩ ∧ tt 215 = ⟨1, 7, 72, [.d (.v (.int .i64 0)), .d (.v (.int .i64 0)), .d (.v (.int .i64 0)), .d (.v (.string ⟨#[]⟩)), .d (.v (.int .i64 0)), .d (.v (.int .i64 0)), .d (.v (.string ⟨#[]⟩))], [(0, 3), (1, 3), (2, 3), (3, 9), (4, 206)], 0, .i64⟩ ∧ tt 234 = ⟨1, 2, 32, [.d (.v (.bool false)), .z], [(0, 4), (1, 71)], 0, .i64⟩ ∧ tt 235 = ⟨1, 2, 32, [.d (.v (.bool false)), .z], [(0, 4), (1, 71)], 0, .i64⟩ ∧ tt 281 = ⟨2, 1, 24, [.z], [], 4, .i64⟩ ∧ tt 288 = ⟨3, 1, 8, [.d (.v (.int .i64 0))], [], 0, .i64⟩ ∧ tt 317 = ⟨3, 1, 1, [.d (.v (.int .u8 0))], [], 0, .u8⟩ ∧ tt 318 = ⟨3, 1, 1, [.d (.v (.int .u8 0))], [], 0, .u8⟩ :=
  ⟨rfl, rfl, rfl, rfl, rfl, rfl, rfl, rfl, rfl, rfl, rfl, rfl, rfl, rfl, rfl, rfl, rfl, rfl, rfl, rfl, rfl, rfl, rfl, rfl, rfl, rfl, rfl, rfl, rfl, rfl, rfl, rfl, rfl, rfl, rfl, rfl, rfl, rfl, rfl, rfl, rfl, rfl, rfl, rfl, rfl, rfl, rfl, rfl, rfl, rfl, rfl, rfl, rfl, rfl, rfl, rfl, rfl, rfl, rfl, rfl, rfl, rfl, rfl, rfl, rfl, rfl, rfl, rfl, rfl, rfl, rfl⟩
def eqk : Nat → List Nat := fun t => if t = 176 then [1, 1, 3] else if t = 185 then [3, 1, 1, 3] else if t = 188 then [3, 1] else if t = 193 then [3, 1] else if t = 199 then [1, 1, 1, 3, 1, 1, 3] else if t = 206 then [1, 1, 3] else if t = 208 then [3, 1, 1, 3] else if t = 215 then [1, 1, 1, 3, 1, 1, 3] else []
theorem kind1_inv {v : Value} (h : kindV v = 1) : ∃ x : Int, v = .int .i64 x := by
  cases v with
  | int k n => cases k <;> simp_all [kindV]
  | _ => simp_all [kindV]
theorem kind3_inv {v : Value} (h : kindV v = 3) : ∃ x : ByteArray, v = .string x := by
  cases v with
  | int k n => cases k <;> simp_all [kindV]
  | _ => simp_all [kindV]
theorem kinds176 {xs : List Value} (h : xs.map kindV = [1, 1, 3]) : ∃ (x0 : Int) (x1 : Int) (x2 : ByteArray), xs = [.int .i64 x0, .int .i64 x1, .string x2] := by
  obtain ⟨v0, xs, rfl⟩ : ∃ v l, xs = v :: l := by cases xs with
    | nil => simp at h
    | cons v l => exact ⟨v, l, rfl⟩
  simp only [List.map_cons, List.cons.injEq] at h
  obtain ⟨h0, h⟩ := h
  obtain ⟨v1, xs, rfl⟩ : ∃ v l, xs = v :: l := by cases xs with
    | nil => simp at h
    | cons v l => exact ⟨v, l, rfl⟩
  simp only [List.map_cons, List.cons.injEq] at h
  obtain ⟨h1, h⟩ := h
  obtain ⟨v2, xs, rfl⟩ : ∃ v l, xs = v :: l := by cases xs with
    | nil => simp at h
    | cons v l => exact ⟨v, l, rfl⟩
  simp only [List.map_cons, List.cons.injEq] at h
  obtain ⟨h2, h⟩ := h
  have : xs = [] := by simpa using h
  subst this
  obtain ⟨x0, rfl⟩ := kind1_inv h0
  obtain ⟨x1, rfl⟩ := kind1_inv h1
  obtain ⟨x2, rfl⟩ := kind3_inv h2
  exact ⟨x0, x1, x2, rfl⟩
theorem kinds185 {xs : List Value} (h : xs.map kindV = [3, 1, 1, 3]) : ∃ (x0 : ByteArray) (x1 : Int) (x2 : Int) (x3 : ByteArray), xs = [.string x0, .int .i64 x1, .int .i64 x2, .string x3] := by
  obtain ⟨v0, xs, rfl⟩ : ∃ v l, xs = v :: l := by cases xs with
    | nil => simp at h
    | cons v l => exact ⟨v, l, rfl⟩
  simp only [List.map_cons, List.cons.injEq] at h
  obtain ⟨h0, h⟩ := h
  obtain ⟨v1, xs, rfl⟩ : ∃ v l, xs = v :: l := by cases xs with
    | nil => simp at h
    | cons v l => exact ⟨v, l, rfl⟩
  simp only [List.map_cons, List.cons.injEq] at h
  obtain ⟨h1, h⟩ := h
  obtain ⟨v2, xs, rfl⟩ : ∃ v l, xs = v :: l := by cases xs with
    | nil => simp at h
    | cons v l => exact ⟨v, l, rfl⟩
  simp only [List.map_cons, List.cons.injEq] at h
  obtain ⟨h2, h⟩ := h
  obtain ⟨v3, xs, rfl⟩ : ∃ v l, xs = v :: l := by cases xs with
    | nil => simp at h
    | cons v l => exact ⟨v, l, rfl⟩
  simp only [List.map_cons, List.cons.injEq] at h
  obtain ⟨h3, h⟩ := h
  have : xs = [] := by simpa using h
  subst this
  obtain ⟨x0, rfl⟩ := kind3_inv h0
  obtain ⟨x1, rfl⟩ := kind1_inv h1
  obtain ⟨x2, rfl⟩ := kind1_inv h2
  obtain ⟨x3, rfl⟩ := kind3_inv h3
  exact ⟨x0, x1, x2, x3, rfl⟩
theorem kinds188 {xs : List Value} (h : xs.map kindV = [3, 1]) : ∃ (x0 : ByteArray) (x1 : Int), xs = [.string x0, .int .i64 x1] := by
  obtain ⟨v0, xs, rfl⟩ : ∃ v l, xs = v :: l := by cases xs with
    | nil => simp at h
    | cons v l => exact ⟨v, l, rfl⟩
  simp only [List.map_cons, List.cons.injEq] at h
  obtain ⟨h0, h⟩ := h
  obtain ⟨v1, xs, rfl⟩ : ∃ v l, xs = v :: l := by cases xs with
    | nil => simp at h
    | cons v l => exact ⟨v, l, rfl⟩
  simp only [List.map_cons, List.cons.injEq] at h
  obtain ⟨h1, h⟩ := h
  have : xs = [] := by simpa using h
  subst this
  obtain ⟨x0, rfl⟩ := kind3_inv h0
  obtain ⟨x1, rfl⟩ := kind1_inv h1
  exact ⟨x0, x1, rfl⟩
theorem kinds193 {xs : List Value} (h : xs.map kindV = [3, 1]) : ∃ (x0 : ByteArray) (x1 : Int), xs = [.string x0, .int .i64 x1] := by
  obtain ⟨v0, xs, rfl⟩ : ∃ v l, xs = v :: l := by cases xs with
    | nil => simp at h
    | cons v l => exact ⟨v, l, rfl⟩
  simp only [List.map_cons, List.cons.injEq] at h
  obtain ⟨h0, h⟩ := h
  obtain ⟨v1, xs, rfl⟩ : ∃ v l, xs = v :: l := by cases xs with
    | nil => simp at h
    | cons v l => exact ⟨v, l, rfl⟩
  simp only [List.map_cons, List.cons.injEq] at h
  obtain ⟨h1, h⟩ := h
  have : xs = [] := by simpa using h
  subst this
  obtain ⟨x0, rfl⟩ := kind3_inv h0
  obtain ⟨x1, rfl⟩ := kind1_inv h1
  exact ⟨x0, x1, rfl⟩
theorem kinds199 {xs : List Value} (h : xs.map kindV = [1, 1, 1, 3, 1, 1, 3]) : ∃ (x0 : Int) (x1 : Int) (x2 : Int) (x3 : ByteArray) (x4 : Int) (x5 : Int) (x6 : ByteArray), xs = [.int .i64 x0, .int .i64 x1, .int .i64 x2, .string x3, .int .i64 x4, .int .i64 x5, .string x6] := by
  obtain ⟨v0, xs, rfl⟩ : ∃ v l, xs = v :: l := by cases xs with
    | nil => simp at h
    | cons v l => exact ⟨v, l, rfl⟩
  simp only [List.map_cons, List.cons.injEq] at h
  obtain ⟨h0, h⟩ := h
  obtain ⟨v1, xs, rfl⟩ : ∃ v l, xs = v :: l := by cases xs with
    | nil => simp at h
    | cons v l => exact ⟨v, l, rfl⟩
  simp only [List.map_cons, List.cons.injEq] at h
  obtain ⟨h1, h⟩ := h
  obtain ⟨v2, xs, rfl⟩ : ∃ v l, xs = v :: l := by cases xs with
    | nil => simp at h
    | cons v l => exact ⟨v, l, rfl⟩
  simp only [List.map_cons, List.cons.injEq] at h
  obtain ⟨h2, h⟩ := h
  obtain ⟨v3, xs, rfl⟩ : ∃ v l, xs = v :: l := by cases xs with
    | nil => simp at h
    | cons v l => exact ⟨v, l, rfl⟩
  simp only [List.map_cons, List.cons.injEq] at h
  obtain ⟨h3, h⟩ := h
  obtain ⟨v4, xs, rfl⟩ : ∃ v l, xs = v :: l := by cases xs with
    | nil => simp at h
    | cons v l => exact ⟨v, l, rfl⟩
  simp only [List.map_cons, List.cons.injEq] at h
  obtain ⟨h4, h⟩ := h
  obtain ⟨v5, xs, rfl⟩ : ∃ v l, xs = v :: l := by cases xs with
    | nil => simp at h
    | cons v l => exact ⟨v, l, rfl⟩
  simp only [List.map_cons, List.cons.injEq] at h
  obtain ⟨h5, h⟩ := h
  obtain ⟨v6, xs, rfl⟩ : ∃ v l, xs = v :: l := by cases xs with
    | nil => simp at h
    | cons v l => exact ⟨v, l, rfl⟩
  simp only [List.map_cons, List.cons.injEq] at h
  obtain ⟨h6, h⟩ := h
  have : xs = [] := by simpa using h
  subst this
  obtain ⟨x0, rfl⟩ := kind1_inv h0
  obtain ⟨x1, rfl⟩ := kind1_inv h1
  obtain ⟨x2, rfl⟩ := kind1_inv h2
  obtain ⟨x3, rfl⟩ := kind3_inv h3
  obtain ⟨x4, rfl⟩ := kind1_inv h4
  obtain ⟨x5, rfl⟩ := kind1_inv h5
  obtain ⟨x6, rfl⟩ := kind3_inv h6
  exact ⟨x0, x1, x2, x3, x4, x5, x6, rfl⟩
theorem kinds206 {xs : List Value} (h : xs.map kindV = [1, 1, 3]) : ∃ (x0 : Int) (x1 : Int) (x2 : ByteArray), xs = [.int .i64 x0, .int .i64 x1, .string x2] := by
  obtain ⟨v0, xs, rfl⟩ : ∃ v l, xs = v :: l := by cases xs with
    | nil => simp at h
    | cons v l => exact ⟨v, l, rfl⟩
  simp only [List.map_cons, List.cons.injEq] at h
  obtain ⟨h0, h⟩ := h
  obtain ⟨v1, xs, rfl⟩ : ∃ v l, xs = v :: l := by cases xs with
    | nil => simp at h
    | cons v l => exact ⟨v, l, rfl⟩
  simp only [List.map_cons, List.cons.injEq] at h
  obtain ⟨h1, h⟩ := h
  obtain ⟨v2, xs, rfl⟩ : ∃ v l, xs = v :: l := by cases xs with
    | nil => simp at h
    | cons v l => exact ⟨v, l, rfl⟩
  simp only [List.map_cons, List.cons.injEq] at h
  obtain ⟨h2, h⟩ := h
  have : xs = [] := by simpa using h
  subst this
  obtain ⟨x0, rfl⟩ := kind1_inv h0
  obtain ⟨x1, rfl⟩ := kind1_inv h1
  obtain ⟨x2, rfl⟩ := kind3_inv h2
  exact ⟨x0, x1, x2, rfl⟩
theorem kinds208 {xs : List Value} (h : xs.map kindV = [3, 1, 1, 3]) : ∃ (x0 : ByteArray) (x1 : Int) (x2 : Int) (x3 : ByteArray), xs = [.string x0, .int .i64 x1, .int .i64 x2, .string x3] := by
  obtain ⟨v0, xs, rfl⟩ : ∃ v l, xs = v :: l := by cases xs with
    | nil => simp at h
    | cons v l => exact ⟨v, l, rfl⟩
  simp only [List.map_cons, List.cons.injEq] at h
  obtain ⟨h0, h⟩ := h
  obtain ⟨v1, xs, rfl⟩ : ∃ v l, xs = v :: l := by cases xs with
    | nil => simp at h
    | cons v l => exact ⟨v, l, rfl⟩
  simp only [List.map_cons, List.cons.injEq] at h
  obtain ⟨h1, h⟩ := h
  obtain ⟨v2, xs, rfl⟩ : ∃ v l, xs = v :: l := by cases xs with
    | nil => simp at h
    | cons v l => exact ⟨v, l, rfl⟩
  simp only [List.map_cons, List.cons.injEq] at h
  obtain ⟨h2, h⟩ := h
  obtain ⟨v3, xs, rfl⟩ : ∃ v l, xs = v :: l := by cases xs with
    | nil => simp at h
    | cons v l => exact ⟨v, l, rfl⟩
  simp only [List.map_cons, List.cons.injEq] at h
  obtain ⟨h3, h⟩ := h
  have : xs = [] := by simpa using h
  subst this
  obtain ⟨x0, rfl⟩ := kind3_inv h0
  obtain ⟨x1, rfl⟩ := kind1_inv h1
  obtain ⟨x2, rfl⟩ := kind1_inv h2
  obtain ⟨x3, rfl⟩ := kind3_inv h3
  exact ⟨x0, x1, x2, x3, rfl⟩
theorem kinds215 {xs : List Value} (h : xs.map kindV = [1, 1, 1, 3, 1, 1, 3]) : ∃ (x0 : Int) (x1 : Int) (x2 : Int) (x3 : ByteArray) (x4 : Int) (x5 : Int) (x6 : ByteArray), xs = [.int .i64 x0, .int .i64 x1, .int .i64 x2, .string x3, .int .i64 x4, .int .i64 x5, .string x6] := by
  obtain ⟨v0, xs, rfl⟩ : ∃ v l, xs = v :: l := by cases xs with
    | nil => simp at h
    | cons v l => exact ⟨v, l, rfl⟩
  simp only [List.map_cons, List.cons.injEq] at h
  obtain ⟨h0, h⟩ := h
  obtain ⟨v1, xs, rfl⟩ : ∃ v l, xs = v :: l := by cases xs with
    | nil => simp at h
    | cons v l => exact ⟨v, l, rfl⟩
  simp only [List.map_cons, List.cons.injEq] at h
  obtain ⟨h1, h⟩ := h
  obtain ⟨v2, xs, rfl⟩ : ∃ v l, xs = v :: l := by cases xs with
    | nil => simp at h
    | cons v l => exact ⟨v, l, rfl⟩
  simp only [List.map_cons, List.cons.injEq] at h
  obtain ⟨h2, h⟩ := h
  obtain ⟨v3, xs, rfl⟩ : ∃ v l, xs = v :: l := by cases xs with
    | nil => simp at h
    | cons v l => exact ⟨v, l, rfl⟩
  simp only [List.map_cons, List.cons.injEq] at h
  obtain ⟨h3, h⟩ := h
  obtain ⟨v4, xs, rfl⟩ : ∃ v l, xs = v :: l := by cases xs with
    | nil => simp at h
    | cons v l => exact ⟨v, l, rfl⟩
  simp only [List.map_cons, List.cons.injEq] at h
  obtain ⟨h4, h⟩ := h
  obtain ⟨v5, xs, rfl⟩ : ∃ v l, xs = v :: l := by cases xs with
    | nil => simp at h
    | cons v l => exact ⟨v, l, rfl⟩
  simp only [List.map_cons, List.cons.injEq] at h
  obtain ⟨h5, h⟩ := h
  obtain ⟨v6, xs, rfl⟩ : ∃ v l, xs = v :: l := by cases xs with
    | nil => simp at h
    | cons v l => exact ⟨v, l, rfl⟩
  simp only [List.map_cons, List.cons.injEq] at h
  obtain ⟨h6, h⟩ := h
  have : xs = [] := by simpa using h
  subst this
  obtain ⟨x0, rfl⟩ := kind1_inv h0
  obtain ⟨x1, rfl⟩ := kind1_inv h1
  obtain ⟨x2, rfl⟩ := kind1_inv h2
  obtain ⟨x3, rfl⟩ := kind3_inv h3
  obtain ⟨x4, rfl⟩ := kind1_inv h4
  obtain ⟨x5, rfl⟩ := kind1_inv h5
  obtain ⟨x6, rfl⟩ := kind3_inv h6
  exact ⟨x0, x1, x2, x3, x4, x5, x6, rfl⟩
set_option maxHeartbeats 1000000 in
theorem eqT176 : EqT Tryz.prog 176 [1, 1, 3] := by
  refine ⟨by decide, fun w xs ys hx hy => ?_, fun w xs ys hx hy => ?_, fun op x y xs ys w => run_eqGuard_agg w op 176 x y xs ys Tryz.eqGuardType176⟩
  · obtain ⟨x0, x1, x2, hx⟩ := kinds176 hx
    obtain ⟨y0, y1, y2, hy⟩ := kinds176 hy
    subst hx; subst hy
    simp [go_sem, eqVs, eqV, beq_int, beq_bytes]
    (repeat' split) <;> simp_all
  · obtain ⟨x0, x1, x2, hx⟩ := kinds176 hx
    obtain ⟨y0, y1, y2, hy⟩ := kinds176 hy
    subst hx; subst hy
    simp [go_sem, eqVs, eqV, beq_int, beq_bytes]
    (repeat' split) <;> simp_all
set_option maxHeartbeats 1000000 in
theorem eqT185 : EqT Tryz.prog 185 [3, 1, 1, 3] := by
  refine ⟨by decide, fun w xs ys hx hy => ?_, fun w xs ys hx hy => ?_, fun op x y xs ys w => run_eqGuard_agg w op 185 x y xs ys Tryz.eqGuardType185⟩
  · obtain ⟨x0, x1, x2, x3, hx⟩ := kinds185 hx
    obtain ⟨y0, y1, y2, y3, hy⟩ := kinds185 hy
    subst hx; subst hy
    simp [go_sem, eqVs, eqV, beq_int, beq_bytes]
    (repeat' split) <;> simp_all
  · obtain ⟨x0, x1, x2, x3, hx⟩ := kinds185 hx
    obtain ⟨y0, y1, y2, y3, hy⟩ := kinds185 hy
    subst hx; subst hy
    simp [go_sem, eqVs, eqV, beq_int, beq_bytes]
    (repeat' split) <;> simp_all
set_option maxHeartbeats 1000000 in
theorem eqT188 : EqT Tryz.prog 188 [3, 1] := by
  refine ⟨by decide, fun w xs ys hx hy => ?_, fun w xs ys hx hy => ?_, fun op x y xs ys w => run_eqGuard_agg w op 188 x y xs ys Tryz.eqGuardType188⟩
  · obtain ⟨x0, x1, hx⟩ := kinds188 hx
    obtain ⟨y0, y1, hy⟩ := kinds188 hy
    subst hx; subst hy
    simp [go_sem, eqVs, eqV, beq_int, beq_bytes]
    (repeat' split) <;> simp_all
  · obtain ⟨x0, x1, hx⟩ := kinds188 hx
    obtain ⟨y0, y1, hy⟩ := kinds188 hy
    subst hx; subst hy
    simp [go_sem, eqVs, eqV, beq_int, beq_bytes]
    (repeat' split) <;> simp_all
set_option maxHeartbeats 1000000 in
theorem eqT193 : EqT Tryz.prog 193 [3, 1] := by
  refine ⟨by decide, fun w xs ys hx hy => ?_, fun w xs ys hx hy => ?_, fun op x y xs ys w => run_eqGuard_agg w op 193 x y xs ys Tryz.eqGuardType193⟩
  · obtain ⟨x0, x1, hx⟩ := kinds193 hx
    obtain ⟨y0, y1, hy⟩ := kinds193 hy
    subst hx; subst hy
    simp [go_sem, eqVs, eqV, beq_int, beq_bytes]
    (repeat' split) <;> simp_all
  · obtain ⟨x0, x1, hx⟩ := kinds193 hx
    obtain ⟨y0, y1, hy⟩ := kinds193 hy
    subst hx; subst hy
    simp [go_sem, eqVs, eqV, beq_int, beq_bytes]
    (repeat' split) <;> simp_all
set_option maxHeartbeats 1000000 in
theorem eqT199 : EqT Tryz.prog 199 [1, 1, 1, 3, 1, 1, 3] := by
  refine ⟨by decide, fun w xs ys hx hy => ?_, fun w xs ys hx hy => ?_, fun op x y xs ys w => run_eqGuard_agg w op 199 x y xs ys Tryz.eqGuardType199⟩
  · obtain ⟨x0, x1, x2, x3, x4, x5, x6, hx⟩ := kinds199 hx
    obtain ⟨y0, y1, y2, y3, y4, y5, y6, hy⟩ := kinds199 hy
    subst hx; subst hy
    simp [go_sem, eqVs, eqV, beq_int, beq_bytes]
    (repeat' split) <;> simp_all
  · obtain ⟨x0, x1, x2, x3, x4, x5, x6, hx⟩ := kinds199 hx
    obtain ⟨y0, y1, y2, y3, y4, y5, y6, hy⟩ := kinds199 hy
    subst hx; subst hy
    simp [go_sem, eqVs, eqV, beq_int, beq_bytes]
    (repeat' split) <;> simp_all
set_option maxHeartbeats 1000000 in
theorem eqT206 : EqT Tryz.prog 206 [1, 1, 3] := by
  refine ⟨by decide, fun w xs ys hx hy => ?_, fun w xs ys hx hy => ?_, fun op x y xs ys w => run_eqGuard_agg w op 206 x y xs ys Tryz.eqGuardType206⟩
  · obtain ⟨x0, x1, x2, hx⟩ := kinds206 hx
    obtain ⟨y0, y1, y2, hy⟩ := kinds206 hy
    subst hx; subst hy
    simp [go_sem, eqVs, eqV, beq_int, beq_bytes]
    (repeat' split) <;> simp_all
  · obtain ⟨x0, x1, x2, hx⟩ := kinds206 hx
    obtain ⟨y0, y1, y2, hy⟩ := kinds206 hy
    subst hx; subst hy
    simp [go_sem, eqVs, eqV, beq_int, beq_bytes]
    (repeat' split) <;> simp_all
set_option maxHeartbeats 1000000 in
theorem eqT208 : EqT Tryz.prog 208 [3, 1, 1, 3] := by
  refine ⟨by decide, fun w xs ys hx hy => ?_, fun w xs ys hx hy => ?_, fun op x y xs ys w => run_eqGuard_agg w op 208 x y xs ys Tryz.eqGuardType208⟩
  · obtain ⟨x0, x1, x2, x3, hx⟩ := kinds208 hx
    obtain ⟨y0, y1, y2, y3, hy⟩ := kinds208 hy
    subst hx; subst hy
    simp [go_sem, eqVs, eqV, beq_int, beq_bytes]
    (repeat' split) <;> simp_all
  · obtain ⟨x0, x1, x2, x3, hx⟩ := kinds208 hx
    obtain ⟨y0, y1, y2, y3, hy⟩ := kinds208 hy
    subst hx; subst hy
    simp [go_sem, eqVs, eqV, beq_int, beq_bytes]
    (repeat' split) <;> simp_all
set_option maxHeartbeats 1000000 in
theorem eqT215 : EqT Tryz.prog 215 [1, 1, 1, 3, 1, 1, 3] := by
  refine ⟨by decide, fun w xs ys hx hy => ?_, fun w xs ys hx hy => ?_, fun op x y xs ys w => run_eqGuard_agg w op 215 x y xs ys Tryz.eqGuardType215⟩
  · obtain ⟨x0, x1, x2, x3, x4, x5, x6, hx⟩ := kinds215 hx
    obtain ⟨y0, y1, y2, y3, y4, y5, y6, hy⟩ := kinds215 hy
    subst hx; subst hy
    simp [go_sem, eqVs, eqV, beq_int, beq_bytes]
    (repeat' split) <;> simp_all
  · obtain ⟨x0, x1, x2, x3, x4, x5, x6, hx⟩ := kinds215 hx
    obtain ⟨y0, y1, y2, y3, y4, y5, y6, hy⟩ := kinds215 hy
    subst hx; subst hy
    simp [go_sem, eqVs, eqV, beq_int, beq_bytes]
    (repeat' split) <;> simp_all
theorem eqOK : ∀ t, eqk t ≠ [] → EqT Tryz.prog t (eqk t) := by
  intro t h
  unfold eqk at h ⊢
  by_cases e176 : t = 176
  · subst e176; exact eqT176
  simp only [e176, if_false] at h ⊢
  by_cases e185 : t = 185
  · subst e185; exact eqT185
  simp only [e185, if_false] at h ⊢
  by_cases e188 : t = 188
  · subst e188; exact eqT188
  simp only [e188, if_false] at h ⊢
  by_cases e193 : t = 193
  · subst e193; exact eqT193
  simp only [e193, if_false] at h ⊢
  by_cases e199 : t = 199
  · subst e199; exact eqT199
  simp only [e199, if_false] at h ⊢
  by_cases e206 : t = 206
  · subst e206; exact eqT206
  simp only [e206, if_false] at h ⊢
  by_cases e208 : t = 208
  · subst e208; exact eqT208
  simp only [e208, if_false] at h ⊢
  by_cases e215 : t = 215
  · subst e215; exact eqT215
  simp only [e215, if_false] at h ⊢
  exact (h rfl).elim
noncomputable def EV (C : Ctx) : Env := ⟨Tryz.prog, tt, C, eqk⟩
theorem EV_T (C : Ctx) : (EV C).T = tt := rfl
theorem EV_q (C : Ctx) : (EV C).eqk = eqk := rfl
attribute [go_sem] tts EV_T EV_q eqk
theorem reg {C : Ctx} {id : Nat} {ops : List Oper} {F : Ex → St → Prop} {st : St} (h : vcRun (EV C) ops ops st (F .normal) ⟨⟩) : WP Tryz.prog C (.region id ops.toArray false) F st := WP_region (E := EV C) ttOK eqOK h.out
instance nReg {C : Ctx} {id : Nat} {ops : List Oper} {F : Ex → St → Prop} {st : St} : Ny (WP Tryz.prog C (.region id ops.toArray false) F st) (vcRun (EV C) ops ops st (F .normal) ⟨⟩) := ⟨reg⟩
instance nCond {C : Ctx} {c : Operand} {x y : Code} {F : Ex → St → Prop} {st : St} : Ny (WP Tryz.prog C (.cond c x y) F st) (Nm (cndK (ev st c) (WP Tryz.prog C x F st) (WP Tryz.prog C y F st) ⟨⟩)) := ⟨fun h => by obtain ⟨b, hs, h1, h2⟩ := h; exact WP_cond (E := EV C) hs h1 h2⟩
instance clT {C : Ctx} {f : Nat} {args args' : List SV} {res : SV} {st : St} {K : St → SV → Prop} : Cy Tryz.prog f args' res (CallT (EV C) f args st K ⟨⟩) (args.map (pureS (frzH st.h (idsS args))) = args' ∧ args'.all freeS = true) (Nm (K ⟨st.t, frzH st.h (idsS args) ++ adH res.all⟩ (adS (frzH st.h (idsS args)).length res))) := ⟨fun h o k => ⟨CallS.frz (E := EV C) h o.1 o.2 k⟩⟩
instance clD {C : Ctx} {f : Nat} {args args' : List SV} {res : SV} {h : List HB} {k : SV → Prop} : Cy Tryz.prog f args' res (CallD (EV C) f args h k ⟨⟩) ((args.map (pureS h) = args' ∧ args'.all freeS = true) ∧ res.all.all isD = true) (Nm (k res)) := ⟨fun hf o hk => CallD.of_fn (E := EV C) hf o.1.1 o.1.2 o.2 hk⟩
instance clX {C : Ctx} {f : Nat} {args args' : List SV} {res : SV} {h : List HB} {k : SV → Prop} : Cy Tryz.prog f args' res (CallX (EV C) f args h k ⟨⟩) ((args.map (pureS h) = args' ∧ args'.all freeS = true) ∧ (res.all.all isD || tagS res) = true) (Nm (k (liftS res))) := ⟨fun hf o hk => by
  cases hd : res.all.all isD with
  | true =>
    have hk : k (liftS res) := hk
    rw [liftS_isD hd] at hk
    exact ⟨.inl (CallD.of_fn (E := EV C) hf o.1.1 o.1.2 hd hk)⟩
  | false =>
    have ho := o.2
    rw [hd, Bool.false_or] at ho
    exact ⟨.inr ⟨args', res, hf, o.1.1, o.1.2, ho, hk⟩⟩⟩
instance clG {C : Ctx} {f : Nat} {args args' : List SV} {res : SV} {h : List HB} {k : List HB → SV → Prop} : Cy Tryz.prog f args' res (CallG (EV C) f args h k ⟨⟩) (args.map (pureS (frzH h (idsS args))) = args' ∧ args'.all freeS = true) (Nm (k (frzH h (idsS args) ++ adH res.all) (adS (frzH h (idsS args)).length res))) := ⟨fun hf o hk => CallG.frz (E := EV C) hf o.1 o.2 hk⟩
theorem fol : Tryz.prog.follows .mixedOrders = true := by kernel_rfl
theorem regd {C : Ctx} {id : Nat} {ops : List Oper} {F : Ex → St → Prop} {st : St} (hB : Region.lexB .any ops.toArray = true) (h : vcDRun (EV C) ops ops st (F .normal) ⟨⟩) : WP Tryz.prog C (.region id ops.toArray true) F st := WP_draw (E := EV C) ttOK eqOK fol hB h.out
theorem ent {f : Nat} {fn : Func} {c : Code} {rs : List ResultVar} {args : List SV} {res : SV} (hf : Tryz.prog.funcs[f]? = some fn) (hb : fn.body = some c) (hcall : ∀ x w, (callFunc f x).run Tryz.prog w = .ok (.enter f x) w) (hres : fn.results = rs.toArray)
    (h : ∀ C : Ctx, WP Tryz.prog C c (kont Tryz.prog C [] (retK (EV C) rs res)) (st0 args fn.ntmps)) : FnC Tryz.prog f args res := FnC.of_wp (eqk := eqk) ttOK hf hb hcall hres fun C _ => h C
theorem caldo {C : Ctx} {f : Nat} {args args' : List SV} {res : SV} {h : List HB} {k : SV → Prop} (hf : FnC Tryz.prog f args' res) (h1 : args.map (pureOS h) = args') (h2 : args'.all freeS = true) (h3 : res.all.all isD = true) (h4 : res.all.all isWS = true) (hk : k res) : CallD (EV C) f args h k ⟨⟩ := CallD.of_own (E := EV C) hf h1 h2 h3 h4 hk
theorem calo {C : Ctx} {f : Nat} {args args' : List SV} {res : SV} {st : St} {K : St → SV → Prop} (h : FnC Tryz.prog f args' res) (he : args.map (pureOS (frzH st.h (idsS args))) = args') (hfree : args'.all freeS = true) (hres : res.all.all isWS = true) (k : K ⟨st.t, frzH st.h (idsS args) ++ adG (fun _ => none) 0 res.all⟩ (adS (frzH st.h (idsS args)).length res)) : CallT (EV C) f args st K ⟨⟩ := ⟨CallS.lendF (E := EV C) h he hfree hres k⟩
theorem calm {C : Ctx} {f : Nat} {b : Bool} {cs outs : List At} {n res : Int} {a0 : SV} {st : St} {K : St → SV → Prop} (h : FnM Tryz.prog f b cs outs n res) (ha : isG a0 = some b) (hm : mrkOK st.h a0.cells cs outs) (k : K ⟨st.t, markH st.h a0.cells outs⟩ (oi res)) : CallT (EV C) f [a0, oi n] st K ⟨⟩ := ⟨CallS.mark (E := EV C) h (cellsM_of ha) hm k⟩
theorem caln {C : Ctx} {f : Nat} {ty0 ty1 sz' : Nat} {sub0 sub1 : List (List D)} {n res : Int} {id sz i fo : Nat} {st : St} {K : St → SV → Prop} (h : FnM Tryz.prog f false [.w ty0 sz' sub0] [.w ty1 sz' sub1] n res) (ok : partOK st.h id sz i fo sz' sub0) (k : K ⟨st.t, partH st.h id i fo sub1⟩ (oi res)) : CallT (EV C) f [.o (.n id sz i fo), oi n] st K ⟨⟩ := ⟨CallS.partC (E := EV C) h ok k⟩
theorem cali {C : Ctx} {f ty sz id : Nat} {rows rows' : List (List D)} {args' rest : List SV} {st : St} {K : St → SV → Prop} (h : FnI Tryz.prog f ty sz rows args' false rows') (hid : nthH (frzH st.h (idsS rest)) id = .row ty sz rows true) (he : rest.map (pureS (frzH st.h (idsS rest))) = args') (hfree : args'.all freeS = true) (k : K ⟨st.t.map (killS id), setH ((frzH st.h (idsS rest)).map (killB id)) id (.row ty sz rows' true)⟩ (.o (.s id))) : CallT (EV C) f (.o (.s id) :: rest) st K ⟨⟩ := ⟨CallS.give (E := EV C) h hid he hfree (by simpa using k)⟩
theorem calj {C : Ctx} {f ty sz id : Nat} {rows rows' : List (List D)} {args' rest : List SV} {st : St} {K : St → SV → Prop} (h : FnI Tryz.prog f ty sz rows args' true rows') (hid : nthH (frzH st.h (idsS rest)) id = .row ty sz rows true) (he : rest.map (pureS (frzH st.h (idsS rest))) = args') (hfree : args'.all freeS = true) (k : K ⟨st.t, setH (frzH st.h (idsS rest)) id (.row ty sz rows' true)⟩ (.t [])) : CallT (EV C) f (.o (.s id) :: rest) st K ⟨⟩ := ⟨CallS.give (E := EV C) h hid he hfree (by simpa using k)⟩
theorem cale {C : Ctx} {f : Nat} {args args' : List SV} {res : SV} {st : St} {K : St → SV → Prop} (h : FnC Tryz.prog f args' res) (he : args.map (pureOS st.h) = args') (hfree : args'.all freeS = true) (hres : res.all.all isWS = true) (k : K ⟨st.t, st.h ++ adG (fun _ => none) 0 res.all⟩ (adS st.h.length res)) : CallT (EV C) f args st K ⟨⟩ := ⟨CallS.lend (E := EV C) h he hfree hres k⟩
theorem regx {C : Ctx} {id : Nat} {ops l : List Oper} {F : Ex → St → Prop} {st : St} (hl : bodyX ops = l) (hB : lexX .any ops (bodyX ops).length (bodyX ops).length 0 (Array.replicate ops.length false) = true) (hb : backX .any ops (bodyX ops).length = true) (hn : (ops.any fun o => match o.op with | .buildSlice .. | .alloc .. | .store .. => true | .call c => (match c.callee with | .builtin .append => true | _ => false) | _ => false) = true) (hok : st.okB = true) (htag : (st.t.all fun s => !tagS s) = true) (h : vcXRun (EV C) ops l st (fun st' => vcXEnd (EV C) ops st' (F .normal) ⟨⟩) ⟨⟩) : WP Tryz.prog C (.region id ops.toArray true) F st := by
  subst hl
  have e : (fun st' => vcXEnd (EV C) ops st' (F .normal) ⟨⟩) = (fun st' => vcOps (EV C) ops (tailX ops) (finX (EV C) ops st') (F .normal)) := funext fun s => propext ⟨fun h => h.out, fun h => ⟨h⟩⟩
  rw [e] at h
  exact WP_drawX (E := EV C) ttOK eqOK fol hB hb hok htag h.out
theorem entm {f : Nat} {fn : Func} {c : Code} {rs : List ResultVar} {b : Bool} {cs outs : List At} {n res : Int} (hf : Tryz.prog.funcs[f]? = some fn) (hb : fn.body = some c) (hcall : ∀ x w, (callFunc f x).run Tryz.prog w = .ok (.enter f x) w) (hres : fn.results = rs.toArray) (hone : b = false → cs.length = 1) (hsh : shp cs outs)
    (h : ∀ (C : Ctx) (tg : Nat → Option (Value × List Nat × List Value)), WP Tryz.prog C c (kont Tryz.prog C [] (retM (EV C) rs res (adG tg 0 outs))) (stM tg b cs n fn.ntmps)) : FnM Tryz.prog f b cs outs n res := FnM.of_wp (eqk := eqk) ttOK hf hb hcall hres hone hsh h
theorem calr {C : Ctx} {f : Nat} {args args' : List SV} {res : SV} {st : St} {K : St → SV → Prop} (h : FnC Tryz.prog f args' res) (he : args.map (pureOS st.h) = args') (hfree : args'.all freeS = true) (hres : res.all.all isWS = true) (k : K ⟨st.t, st.h ++ adH res.all⟩ (adS st.h.length res)) : CallT (EV C) f args st K ⟨⟩ := ⟨CallS.lendW (E := EV C) h he hfree hres k⟩
theorem rS {C : Ctx} {id : Nat} {ops l m : List Oper} {F : Ex → St → Prop} {st : St} (ps ds : List Nat) (hl : rdX ds ops = l) (hm : noSt ops = m) (hok : (okStX ops ps ds && upPs ps ops && ps.all fun i => decide (i < ops.length)) = true) (hb : st.okB = true) (h : vcGRun (EV C) ds ops m st (fun st1 => vcStT (EV C) ops l ds ps ⟨st1.t, st.h⟩ (F .normal) ⟨⟩) ⟨⟩) : WP Tryz.prog C (.region id ops.toArray true) F st := by
  subst hl hm
  have e : (fun st1 : St => vcStT (EV C) ops (rdX ds ops) ds ps ⟨st1.t, st.h⟩ (F .normal) ⟨⟩) = (fun st1 => vcStI (EV C) ops ds ps ⟨st1.t, st.h⟩ (F .normal)) := funext fun s => propext ⟨fun h => h.out rfl, fun h => ⟨fun _ => h⟩⟩
  rw [e] at h
  simp only [Bool.and_eq_true] at hok
  exact WP_stores (E := EV C) ttOK eqOK fol ps ds hok.1.1 hok.1.2 hok.2 hb h.out
theorem cGr {C : Ctx} {f : Nat} {args args' : List SV} {res : SV} {h : List HB} {k : List HB → SV → Prop} (hf : FnC Tryz.prog f args' res) (he : args.map (pureOS h) = args') (hfree : args'.all freeS = true) (hres : res.all.all isWS = true) (hk : k (h ++ adH res.all) (adS h.length res)) : CallG (EV C) f args h k ⟨⟩ := CallG.lendW (E := EV C) hf he hfree hres hk
theorem cDr {C : Ctx} {f ty sz : Nat} {rows : List (List D)} {args args' : List SV} {h : List HB} {k : SV → Prop} (hf : FnC Tryz.prog f args' (.o (.w ty sz rows))) (h1 : args.map (pureOS h) = args') (h2 : args'.all freeS = true) (h3 : flatB rows = true) (hk : k (.o (.d (.sl rows)))) : CallD (EV C) f args h k ⟨⟩ := CallD.of_lend (E := EV C) hf h1 h2 h3 hk
end Go.Proofs.YtgglopecipbbfaaGreat
