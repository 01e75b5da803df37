/- Joined texts. -/
import Derived.Test.YtddimbdeggomaaaGreatProg
import Derived.Test.YtddimbdeggomaaaGreatZ03
import Derived.Test.YtddimbdeggomaaaGreatZ04
import Derived.KernelRfl
set_option linter.all false
section
namespace Go.Proofs.YtddimbdeggomaaaGreat
open Go Go.Sx Go.RowKit
noncomputable def ttl : List Ty := [.bad,
 .bad,
 ⟨3, 1, 8, [.d (.v (.int .i64 0))], [], 0, .i64⟩,
 ⟨3, 1, 8, [.d (.v (.int .i64 0))], [], 0, .i64⟩,
 ⟨4, 1, 1, [.d (.v (.bool false))], [], 0, .i64⟩,
 ⟨3, 1, 1, [.d (.v (.int .u8 0))], [], 0, .u8⟩,
 ⟨3, 1, 1, [.d (.v (.int .u8 0))], [], 0, .u8⟩,
 ⟨1, 4, 24, [.d (.v (.int .i64 0)), .d (.v (.int .i64 0)), .d (.v (.bool false)), .d (.v (.int .u8 0))], [(0, 2), (1, 3), (2, 4), (3, 6)], 0, .i64⟩,
 ⟨1, 4, 24, [.d (.v (.int .i64 0)), .d (.v (.int .i64 0)), .d (.v (.bool false)), .d (.v (.int .u8 0))], [(0, 2), (1, 3), (2, 4), (3, 6)], 0, .i64⟩,
 ⟨5, 1, 16, [.d (.v (.string ⟨#[]⟩))], [], 0, .i64⟩,
 ⟨5, 1, 16, [.d (.v (.string ⟨#[]⟩))], [], 0, .i64⟩,
 ⟨5, 1, 16, [.d (.v (.string ⟨#[]⟩))], [], 0, .i64⟩,
 .bad,
 .bad,
 .bad,
 .bad,
 .bad,
 .bad,
 .bad,
 .bad,
 .bad,
 .bad,
 ⟨2, 1, 24, [.z], [], 188, .i64⟩,
 ⟨2, 1, 24, [.z], [], 64, .i64⟩,
 ⟨1, 3, 56, [.z, .z, .d (.v (.int .i64 0))], [(0, 22), (1, 23), (2, 3)], 0, .i64⟩,
 ⟨1, 3, 56, [.z, .z, .d (.v (.int .i64 0))], [(0, 22), (1, 23), (2, 3)], 0, .i64⟩,
 ⟨2, 1, 24, [.z], [], 88, .i64⟩,
 ⟨2, 1, 24, [.z], [], 120, .i64⟩,
 ⟨2, 1, 24, [.z], [], 9, .i64⟩,
 .bad,
 .bad,
 .bad,
 .bad,
 ⟨2, 1, 24, [.z], [], 125, .i64⟩,
 .bad,
 .bad,
 ⟨2, 1, 24, [.z], [], 193, .i64⟩,
 ⟨2, 1, 24, [.z], [], 73, .i64⟩,
 ⟨1, 3, 56, [.z, .z, .d (.v (.int .i64 0))], [(0, 36), (1, 37), (2, 3)], 0, .i64⟩,
 ⟨1, 3, 56, [.z, .z, .d (.v (.int .i64 0))], [(0, 36), (1, 37), (2, 3)], 0, .i64⟩,
 .bad,
 ⟨2, 1, 24, [.z], [], 93, .i64⟩,
 .bad,
 .bad,
 .bad,
 .bad,
 .bad,
 .bad,
 .bad,
 .bad,
 .bad,
 .bad,
 .bad,
 ⟨1, 5, 104, [.z, .z, .d (.v (.int .i64 0)), .z, .z], [(0, 39), (3, 41), (4, 33)], 0, .i64⟩,
 ⟨1, 5, 104, [.z, .z, .d (.v (.int .i64 0)), .z, .z], [(0, 39), (3, 41), (4, 33)], 0, .i64⟩,
 .bad,
 .bad,
 .bad,
 .bad,
 .bad,
 ⟨1, 5, 104, [.z, .z, .d (.v (.int .i64 0)), .z, .z], [(0, 25), (3, 26), (4, 27)], 0, .i64⟩,
 ⟨1, 5, 104, [.z, .z, .d (.v (.int .i64 0)), .z, .z], [(0, 25), (3, 26), (4, 27)], 0, .i64⟩,
 ⟨2, 1, 24, [.z], [], 208, .i64⟩,
 ⟨1, 5, 56, [.d (.v (.int .i64 0)), .d (.v (.int .i64 0)), .d (.v (.bool false)), .d (.v (.int .i64 0)), .z], [(0, 3), (1, 3), (2, 4), (3, 3), (4, 62)], 0, .i64⟩,
 ⟨1, 5, 56, [.d (.v (.int .i64 0)), .d (.v (.int .i64 0)), .d (.v (.bool false)), .d (.v (.int .i64 0)), .z], [(0, 3), (1, 3), (2, 4), (3, 3), (4, 62)], 0, .i64⟩,
 .bad,
 .bad,
 ⟨2, 1, 24, [.z], [], 158, .i64⟩,
 .bad,
 .bad,
 .bad,
 ⟨2, 1, 24, [.z], [], 181, .i64⟩,
 ⟨1, 5, 56, [.d (.v (.int .i64 0)), .d (.v (.int .i64 0)), .d (.v (.bool false)), .d (.v (.int .i64 0)), .z], [(0, 3), (1, 3), (2, 4), (3, 3), (4, 71)], 0, .i64⟩,
 ⟨1, 5, 56, [.d (.v (.int .i64 0)), .d (.v (.int .i64 0)), .d (.v (.bool false)), .d (.v (.int .i64 0)), .z], [(0, 3), (1, 3), (2, 4), (3, 3), (4, 71)], 0, .i64⟩,
 .bad,
 .bad,
 .bad,
 .bad,
 .bad,
 .bad,
 .bad,
 .bad,
 .bad,
 .bad,
 .bad,
 .bad,
 ⟨2, 1, 24, [.z], [], 215, .i64⟩,
 ⟨1, 2, 40, [.d (.v (.string ⟨#[]⟩)), .z], [(0, 9), (1, 86)], 0, .i64⟩,
 ⟨1, 2, 40, [.d (.v (.string ⟨#[]⟩)), .z], [(0, 9), (1, 86)], 0, .i64⟩,
 .bad,
 .bad,
 ⟨2, 1, 24, [.z], [], 199, .i64⟩,
 ⟨1, 2, 40, [.d (.v (.string ⟨#[]⟩)), .z], [(0, 9), (1, 91)], 0, .i64⟩,
 ⟨1, 2, 40, [.d (.v (.string ⟨#[]⟩)), .z], [(0, 9), (1, 91)], 0, .i64⟩,
 .bad,
 .bad,
 .bad,
 .bad,
 .bad,
 .bad,
 .bad,
 .bad,
 .bad,
 .bad,
 .bad,
 ⟨1, 9, 112, [.d (.v (.int .i64 0)), .d (.v (.int .i64 0)), .d (.v (.int .i64 0)), .d (.v (.bool false)), .d (.v (.int .i64 0)), .z, .d (.v (.int .i64 0)), .d (.v (.string ⟨#[]⟩)), .z], [(0, 3), (1, 64), (6, 3), (7, 88)], 0, .i64⟩,
 ⟨1, 9, 112, [.d (.v (.int .i64 0)), .d (.v (.int .i64 0)), .d (.v (.int .i64 0)), .d (.v (.bool false)), .d (.v (.int .i64 0)), .z, .d (.v (.int .i64 0)), .d (.v (.string ⟨#[]⟩)), .z], [(0, 3), (1, 64), (6, 3), (7, 88)], 0, .i64⟩,
 .bad,
 .bad,
 ⟨1, 9, 112, [.d (.v (.int .i64 0)), .d (.v (.int .i64 0)), .d (.v (.int .i64 0)), .d (.v (.bool false)), .d (.v (.int .i64 0)), .z, .d (.v (.int .i64 0)), .d (.v (.string ⟨#[]⟩)), .z], [(0, 3), (1, 73), (6, 3), (7, 93)], 0, .i64⟩,
 ⟨1, 9, 112, [.d (.v (.int .i64 0)), .d (.v (.int .i64 0)), .d (.v (.int .i64 0)), .d (.v (.bool false)), .d (.v (.int .i64 0)), .z, .d (.v (.int .i64 0)), .d (.v (.string ⟨#[]⟩)), .z], [(0, 3), (1, 73), (6, 3), (7, 93)], 0, .i64⟩,
 .bad,
 .bad,
 .bad,
 .bad,
 .bad,
 .bad,
 .bad,
 ⟨2, 1, 24, [.z], [], 3, .i64⟩,
 ⟨1, 2, 40, [.d (.v (.string ⟨#[]⟩)), .z], [(0, 9), (1, 118)], 0, .i64⟩,
 ⟨1, 2, 40, [.d (.v (.string ⟨#[]⟩)), .z], [(0, 9), (1, 118)], 0, .i64⟩,
 .bad,
 .bad,
 .bad,
 .bad,
 ⟨1, 2, 40, [.d (.v (.string ⟨#[]⟩)), .z], [(0, 9), (1, 118)], 0, .i64⟩,
 .bad,
 .bad,
 .bad,
 .bad,
 .bad,
 .bad,
 .bad,
 .bad,
 .bad,
 .bad,
 .bad,
 .bad,
 .bad,
 .bad,
 .bad,
 .bad,
 .bad,
 .bad,
 .bad,
 .bad,
 .bad,
 .bad,
 .bad,
 .bad,
 .bad,
 .bad,
 .bad,
 .bad,
 .bad,
 .bad,
 .bad,
 ⟨1, 3, 64, [.d (.v (.string ⟨#[]⟩)), .z, .z], [(0, 9), (1, 118), (2, 118)], 0, .i64⟩,
 ⟨1, 3, 64, [.d (.v (.string ⟨#[]⟩)), .z, .z], [(0, 9), (1, 118), (2, 118)], 0, .i64⟩,
 .bad,
 .bad,
 .bad,
 .bad,
 .bad,
 .bad,
 .bad,
 .bad,
 .bad,
 .bad,
 .bad,
 .bad,
 .bad,
 .bad,
 .bad,
 .bad,
 ⟨1, 3, 32, [.d (.v (.int .i64 0)), .d (.v (.int .i64 0)), .d (.v (.string ⟨#[]⟩))], [(0, 3), (1, 3), (2, 9)], 0, .i64⟩,
 ⟨1, 3, 32, [.d (.v (.int .i64 0)), .d (.v (.int .i64 0)), .d (.v (.string ⟨#[]⟩))], [(0, 3), (1, 3), (2, 9)], 0, .i64⟩,
 .bad,
 .bad,
 .bad,
 ⟨1, 4, 48, [.d (.v (.string ⟨#[]⟩)), .d (.v (.int .i64 0)), .d (.v (.int .i64 0)), .d (.v (.string ⟨#[]⟩))], [(0, 9), (1, 176)], 0, .i64⟩,
 ⟨1, 4, 48, [.d (.v (.string ⟨#[]⟩)), .d (.v (.int .i64 0)), .d (.v (.int .i64 0)), .d (.v (.string ⟨#[]⟩))], [(0, 9), (1, 176)], 0, .i64⟩,
 .bad,
 .bad,
 .bad,
 .bad,
 .bad,
 ⟨1, 2, 24, [.d (.v (.string ⟨#[]⟩)), .d (.v (.int .i64 0))], [(0, 9), (1, 3)], 0, .i64⟩,
 ⟨1, 2, 24, [.d (.v (.string ⟨#[]⟩)), .d (.v (.int .i64 0))], [(0, 9), (1, 3)], 0, .i64⟩,
 .bad,
 .bad,
 .bad,
 .bad,
 ⟨1, 2, 24, [.d (.v (.string ⟨#[]⟩)), .d (.v (.int .i64 0))], [(0, 9), (1, 3)], 0, .i64⟩,
 .bad,
 .bad,
 .bad,
 ⟨2, 1, 24, [.z], [], 5, .i64⟩,
 ⟨1, 7, 72, [.d (.v (.int .i64 0)), .d (.v (.int .i64 0)), .d (.v (.int .i64 0)), .d (.v (.string ⟨#[]⟩)), .d (.v (.int .i64 0)), .d (.v (.int .i64 0)), .d (.v (.string ⟨#[]⟩))], [(0, 3), (1, 3), (2, 3), (3, 9), (4, 176)], 0, .i64⟩,
 ⟨1, 7, 72, [.d (.v (.int .i64 0)), .d (.v (.int .i64 0)), .d (.v (.int .i64 0)), .d (.v (.string ⟨#[]⟩)), .d (.v (.int .i64 0)), .d (.v (.int .i64 0)), .d (.v (.string ⟨#[]⟩))], [(0, 3), (1, 3), (2, 3), (3, 9), (4, 176)], 0, .i64⟩,
 .bad,
 .bad,
 .bad,
 .bad,
 .bad,
 .bad,
 ⟨1, 3, 32, [.d (.v (.int .i64 0)), .d (.v (.int .i64 0)), .d (.v (.string ⟨#[]⟩))], [(0, 3), (1, 3), (2, 9)], 0, .i64⟩,
 ⟨1, 4, 48, [.d (.v (.string ⟨#[]⟩)), .d (.v (.int .i64 0)), .d (.v (.int .i64 0)), .d (.v (.string ⟨#[]⟩))], [(0, 9), (1, 206)], 0, .i64⟩,
 ⟨1, 4, 48, [.d (.v (.string ⟨#[]⟩)), .d (.v (.int .i64 0)), .d (.v (.int .i64 0)), .d (.v (.string ⟨#[]⟩))], [(0, 9), (1, 206)], 0, .i64⟩,
 .bad,
 .bad,
 .bad,
 .bad,
 .bad,
 ⟨1, 7, 72, [.d (.v (.int .i64 0)), .d (.v (.int .i64 0)), .d (.v (.int .i64 0)), .d (.v (.string ⟨#[]⟩)), .d (.v (.int .i64 0)), .d (.v (.int .i64 0)), .d (.v (.string ⟨#[]⟩))], [(0, 3), (1, 3), (2, 3), (3, 9), (4, 206)], 0, .i64⟩,
 ⟨1, 7, 72, [.d (.v (.int .i64 0)), .d (.v (.int .i64 0)), .d (.v (.int .i64 0)), .d (.v (.string ⟨#[]⟩)), .d (.v (.int .i64 0)), .d (.v (.int .i64 0)), .d (.v (.string ⟨#[]⟩))], [(0, 3), (1, 3), (2, 3), (3, 9), (4, 206)], 0, .i64⟩,
 .bad,
 .bad,
 .bad,
 .bad,
 .bad,
 .bad,
 .bad,
 .bad,
 .bad,
 .bad,
 .bad,
 .bad,
 .bad,
 .bad,
 .bad,
 .bad,
 .bad,
 ⟨1, 2, 32, [.d (.v (.bool false)), .z], [(0, 4), (1, 71)], 0, .i64⟩,
 ⟨1, 2, 32, [.d (.v (.bool false)), .z], [(0, 4), (1, 71)], 0, .i64⟩,
 .bad,
 .bad,
 .bad,
 .bad,
 .bad,
 .bad,
 .bad,
 .bad,
 .bad,
 .bad,
 .bad,
 .bad,
 .bad,
 .bad,
 .bad,
 .bad,
 .bad,
 .bad,
 .bad,
 .bad,
 .bad,
 .bad,
 .bad,
 .bad,
 .bad,
 .bad,
 .bad,
 .bad,
 .bad,
 .bad,
 .bad,
 .bad,
 .bad,
 .bad,
 .bad,
 .bad,
 .bad,
 .bad,
 .bad,
 .bad,
 .bad,
 .bad,
 .bad,
 .bad,
 .bad,
 .bad,
 ⟨2, 1, 24, [.z], [], 4, .i64⟩,
 .bad,
 .bad,
 .bad,
 .bad,
 .bad,
 .bad,
 ⟨3, 1, 8, [.d (.v (.int .i64 0))], [], 0, .i64⟩,
 .bad,
 .bad,
 .bad,
 .bad,
 .bad,
 .bad,
 .bad,
 .bad,
 .bad,
 .bad,
 .bad,
 .bad,
 .bad,
 .bad,
 .bad,
 .bad,
 .bad,
 .bad,
 .bad,
 .bad,
 .bad,
 .bad,
 .bad,
 .bad,
 .bad,
 .bad,
 .bad,
 .bad,
 ⟨3, 1, 1, [.d (.v (.int .u8 0))], [], 0, .u8⟩,
 ⟨3, 1, 1, [.d (.v (.int .u8 0))], [], 0, .u8⟩,
 .bad,
 .bad,
 .bad,
 .bad,
 .bad,
 .bad,
 .bad]
noncomputable def tt : Nat → Ty := fun t => ttl.getD t .bad
theorem th : TyOK Tryz.prog tt := TyOK.of_list (by kernel_rfl)
theorem tts : tt 2 = ⟨3, 1, 8, [.d (.v (.int .i64 0))], [], 0, .i64⟩ ∧ tt 3 = ⟨3, 1, 8, [.d (.v (.int .i64 0))], [], 0, .i64⟩ ∧ tt 4 = ⟨4, 1, 1, [.d (.v (.bool false))], [], 0, .i64⟩ ∧ tt 5 = ⟨3, 1, 1, [.d (.v (.int .u8 0))], [], 0, .u8⟩ ∧ tt 6 = ⟨3, 1, 1, [.d (.v (.int .u8 0))], [], 0, .u8⟩ ∧ tt 7 = ⟨1, 4, 24, [.d (.v (.int .i64 0)), .d (.v (.int .i64 0)), .d (.v (.bool false)), .d (.v (.int .u8 0))], [(0, 2), (1, 3), (2, 4), (3, 6)], 0, .i64⟩ ∧ tt 8 = ⟨1, 4, 24, [.d (.v (.int .i64 0)), .d (.v (.int .i64 0)), .d (.v (.bool false)), .d (.v (.int .u8 0))], [(0, 2), (1, 3), (2, 4), (3, 6)], 0, .i64⟩ ∧ tt 9 = ⟨5, 1, 16, [.d (.v (.string ⟨#[]⟩))], [], 0, .i64⟩ ∧ tt 10 = ⟨5, 1, 16, [.d (.v (.string ⟨#[]⟩))], [], 0, .i64⟩ ∧ tt 11 = ⟨5, 1, 16, [.d (.v (.string ⟨#[]⟩))], [], 0, .i64⟩ ∧ tt 22 = ⟨2, 1, 24, [.z], [], 188, .i64⟩ ∧ tt 23 = ⟨2, 1, 24, [.z], [], 64, .i64⟩ ∧ tt 24 = ⟨1, 3, 56, [.z, .z, .d (.v (.int .i64 0))], [(0, 22), (1, 23), (2, 3)], 0, .i64⟩ ∧ tt 25 = ⟨1, 3, 56, [.z, .z, .d (.v (.int .i64 0))], [(0, 22), (1, 23), (2, 3)], 0, .i64⟩ ∧ tt 26 = ⟨2, 1, 24, [.z], [], 88, .i64⟩ ∧ tt 27 = ⟨2, 1, 24, [.z], [], 120, .i64⟩ ∧ tt 28 = ⟨2, 1, 24, [.z], [], 9, .i64⟩ ∧ tt 33 = ⟨2, 1, 24, [.z], [], 125, .i64⟩ ∧ tt 36 = ⟨2, 1, 24, [.z], [], 193, .i64⟩ ∧ tt 37 = ⟨2, 1, 24, [.z], [], 73, .i64⟩ ∧ tt 38 = ⟨1, 3, 56, [.z, .z, .d (.v (.int .i64 0))], [(0, 36), (1, 37), (2, 3)], 0, .i64⟩ ∧ tt 39 = ⟨1, 3, 56, [.z, .z, .d (.v (.int .i64 0))], [(0, 36), (1, 37), (2, 3)], 0, .i64⟩ ∧ tt 41 = ⟨2, 1, 24, [.z], [], 93, .i64⟩ ∧ tt 53 = ⟨1, 5, 104, [.z, .z, .d (.v (.int .i64 0)), .z, .z], [(0, 39), (3, 41), (4, 33)], 0, .i64⟩ ∧ tt 54 = ⟨1, 5, 104, [.z, .z, .d (.v (.int .i64 0)), .z, .z], [(0, 39), (3, 41), (4, 33)], 0, .i64⟩ ∧ tt 60 = ⟨1, 5, 104, [.z, .z, .d (.v (.int .i64 0)), .z, .z], [(0, 25), (3, 26), (4, 27)], 0, .i64⟩ ∧ tt 61 = ⟨1, 5, 104, [.z, .z, .d (.v (.int .i64 0)), .z, .z], [(0, 25), (3, 26), (4, 27)], 0, .i64⟩ ∧ tt 62 = ⟨2, 1, 24, [.z], [], 208, .i64⟩ ∧ tt 63 = ⟨1, 5, 56, [.d (.v (.int .i64 0)), .d (.v (.int .i64 0)), .d (.v (.bool false)), .d (.v (.int .i64 0)), .z], [(0, 3), (1, 3), (2, 4), (3, 3), (4, 62)], 0, .i64⟩ ∧ tt 64 = ⟨1, 5, 56, [.d (.v (.int .i64 0)), .d (.v (.int .i64 0)), .d (.v (.bool false)), .d (.v (.int .i64 0)), .z], [(0, 3), (1, 3), (2, 4), (3, 3), (4, 62)], 0, .i64⟩ ∧ tt 67 = ⟨2, 1, 24, [.z], [], 158, .i64⟩ ∧ tt 71 = ⟨2, 1, 24, [.z], [], 181, .i64⟩ ∧ tt 72 = ⟨1, 5, 56, [.d (.v (.int .i64 0)), .d (.v (.int .i64 0)), .d (.v (.bool false)), .d (.v (.int .i64 0)), .z], [(0, 3), (1, 3), (2, 4), (3, 3), (4, 71)], 0, .i64⟩ ∧ tt 73 = ⟨1, 5, 56, [.d (.v (.int .i64 0)), .d (.v (.int .i64 0)), .d (.v (.bool false)), .d (.v (.int .i64 0)), .z], [(0, 3), (1, 3), (2, 4), (3, 3), (4, 71)], 0, .i64⟩ ∧ tt 86 = ⟨2, 1, 24, [.z], [], 215, .i64⟩ ∧ tt 87 = ⟨1, 2, 40, [.d (.v (.string ⟨#[]⟩)), .z], [(0, 9), (1, 86)], 0, .i64⟩ ∧ tt 88 = ⟨1, 2, 40, [.d (.v (.string ⟨#[]⟩)), .z], [(0, 9), (1, 86)], 0, .i64⟩ ∧ tt 91 = ⟨2, 1, 24, [.z], [], 199, .i64⟩ ∧ tt 92 = ⟨1, 2, 40, [.d (.v (.string ⟨#[]⟩)), .z], [(0, 9), (1, 91)], 0, .i64⟩ ∧ tt 93 = ⟨1, 2, 40, [.d (.v (.string ⟨#[]⟩)), .z], [(0, 9), (1, 91)], 0, .i64⟩ ∧ tt 105 = ⟨1, 9, 112, [.d (.v (.int .i64 0)), .d (.v (.int .i64 0)), .d (.v (.int .i64 0)), .d (.v (.bool false)), .d (.v (.int .i64 0)), .z, .d (.v (.int .i64 0)), .d (.v (.string ⟨#[]⟩)), .z], [(0, 3), (1, 64), (6, 3), (7, 88)], 0, .i64⟩ ∧ tt 106 = ⟨1, 9, 112, [.d (.v (.int .i64 0)), .d (.v (.int .i64 0)), .d (.v (.int .i64 0)), .d (.v (.bool false)), .d (.v (.int .i64 0)), .z, .d (.v (.int .i64 0)), .d (.v (.string ⟨#[]⟩)), .z], [(0, 3), (1, 64), (6, 3), (7, 88)], 0, .i64⟩ ∧ tt 109 = ⟨1, 9, 112, [.d (.v (.int .i64 0)), .d (.v (.int .i64 0)), .d (.v (.int .i64 0)), .d (.v (.bool false)), .d (.v (.int .i64 0)), .z, .d (.v (.int .i64 0)), .d (.v (.string ⟨#[]⟩)), .z], [(0, 3), (1, 73), (6, 3), (7, 93)], 0, .i64⟩ ∧ tt 110 = ⟨1, 9, 112, [.d (.v (.int .i64 0)), .d (.v (.int .i64 0)), .d (.v (.int .i64 0)), .d (.v (.bool false)), .d (.v (.int .i64 0)), .z, .d (.v (.int .i64 0)), .d (.v (.string ⟨#[]⟩)), .z], [(0, 3), (1, 73), (6, 3), (7, 93)], 0, .i64⟩ ∧ tt 118 = ⟨2, 1, 24, [.z], [], 3, .i64⟩ ∧ tt 119 = ⟨1, 2, 40, [.d (.v (.string ⟨#[]⟩)), .z], [(0, 9), (1, 118)], 0, .i64⟩ ∧ tt 120 = ⟨1, 2, 40, [.d (.v (.string ⟨#[]⟩)), .z], [(0, 9), (1, 118)], 0, .i64⟩ ∧ tt 125 = ⟨1, 2, 40, [.d (.v (.string ⟨#[]⟩)), .z], [(0, 9), (1, 118)], 0, .i64⟩ ∧ tt 157 = ⟨1, 3, 64, [.d (.v (.string ⟨#[]⟩)), .z, .z], [(0, 9), (1, 118), (2, 118)], 0, .i64⟩ ∧ tt 158 = ⟨1, 3, 64, [.d (.v (.string ⟨#[]⟩)), .z, .z], [(0, 9), (1, 118), (2, 118)], 0, .i64⟩ ∧ tt 175 = ⟨1, 3, 32, [.d (.v (.int .i64 0)), .d (.v (.int .i64 0)), .d (.v (.string ⟨#[]⟩))], [(0, 3), (1, 3), (2, 9)], 0, .i64⟩ ∧ tt 176 = ⟨1, 3, 32, [.d (.v (.int .i64 0)), .d (.v (.int .i64 0)), .d (.v (.string ⟨#[]⟩))], [(0, 3), (1, 3), (2, 9)], 0, .i64⟩ ∧ tt 180 = ⟨1, 4, 48, [.d (.v (.string ⟨#[]⟩)), .d (.v (.int .i64 0)), .d (.v (.int .i64 0)), .d (.v (.string ⟨#[]⟩))], [(0, 9), (1, 176)], 0, .i64⟩ ∧ tt 181 = ⟨1, 4, 48, [.d (.v (.string ⟨#[]⟩)), .d (.v (.int .i64 0)), .d (.v (.int .i64 0)), .d (.v (.string ⟨#[]⟩))], [(0, 9), (1, 176)], 0, .i64⟩ ∧ tt 187 = ⟨1, 2, 24, [.d (.v (.string ⟨#[]⟩)), .d (.v (.int .i64 0))], [(0, 9), (1, 3)], 0, .i64⟩ ∧ tt 188 = ⟨1, 2, 24, [.d (.v (.string ⟨#[]⟩)), .d (.v (.int .i64 0))], [(0, 9), (1, 3)], 0, .i64⟩ ∧ tt 193 = ⟨1, 2, 24, [.d (.v (.string ⟨#[]⟩)), .d (.v (.int .i64 0))], [(0, 9), (1, 3)], 0, .i64⟩ ∧ tt 197 = ⟨2, 1, 24, [.z], [], 5, .i64⟩ ∧ tt 198 = ⟨1, 7, 72, [.d (.v (.int .i64 0)), .d (.v (.int .i64 0)), .d (.v (.int .i64 0)), .d (.v (.string ⟨#[]⟩)), .d (.v (.int .i64 0)), .d (.v (.int .i64 0)), .d (.v (.string ⟨#[]⟩))], [(0, 3), (1, 3), (2, 3), (3, 9), (4, 176)], 0, .i64⟩ ∧ tt 199 = ⟨1, 7, 72, [.d (.v (.int .i64 0)), .d (.v (.int .i64 0)), .d (.v (.int .i64 0)), .d (.v (.string ⟨#[]⟩)), .d (.v (.int .i64 0)), .d (.v (.int .i64 0)), .d (.v (.string ⟨#[]⟩))], [(0, 3), (1, 3), (2, 3), (3, 9), (4, 176)], 0, .i64⟩ ∧ tt 206 = ⟨1, 3, 32, [.d (.v (.int .i64 0)), .d (.v (.int .i64 0)), .d (.v (.string ⟨#[]⟩))], [(0, 3), (1, 3), (2, 9)], 0, .i64⟩ ∧ tt 207 = ⟨1, 4, 48, [.d (.v (.string ⟨#[]⟩)), .d (.v (.int .i64 0)), .d (.v (.int .i64 0)), .d (.v (.string ⟨#[]⟩))], [(0, 9), (1, 206)], 0, .i64⟩ ∧ tt 208 = ⟨1, 4, 48, [.d (.v (.string ⟨#[]⟩)), .d (.v (.int .i64 0)), .d (.v (.int .i64 0)), .d (.v (.string ⟨#[]⟩))], [(0, 9), (1, 206)], 0, .i64⟩ ∧ tt 214 = ⟨1, 7, 72, [.d (.v (.int .i64 0)), .d (.v (.int .i64 0)), .d (.v (.int .i64 0)), .d (.v (.string ⟨#[]⟩)), .d (.v (.int .i64 0)), .d (.v (.int .i64 0)), .d (.v (.string ⟨#[]⟩))], [(0, 3), (1, 3), (2, 3), (3, 9), (4, 206)], 0, .i64⟩ ∧ tt 215 = ⟨1, 7, 72, [.d (.v (.int .i64 0)), .d (.v (.int .i64 0)), .d (.v (.int .i64 0)), .d (.v (.string ⟨#[]⟩)), .d (.v (.int .i64 0)), .d (.v (.int .i64 0)), .d (.v (.string ⟨#[]⟩))], [(0, 3), (1, 3), (2, 3), (3, 9), (4, 206)], 0, .i64⟩ ∧ tt 233 = ⟨1, 2, 32, [.d (.v (.bool false)), .z], [(0, 4), (1, 71)], 0, .i64⟩ ∧ tt 234 = ⟨1, 2, 32, [.d (.v (.bool false)), .z], [(0, 4), (1, 71)], 0, .i64⟩ ∧ tt 281 = ⟨2, 1, 24, [.z], [], 4, .i64⟩ ∧ tt 288 = ⟨3, 1, 8, [.d (.v (.int .i64 0))], [], 0, .i64⟩ ∧ tt 317 = ⟨3, 1, 1, [.d (.v (.int .u8 0))], [], 0, .u8⟩ ∧ tt 318 = ⟨3, 1, 1, [.d (.v (.int .u8 0))], [], 0, .u8⟩ :=
 ⟨rfl, rfl, rfl, rfl, rfl, rfl, rfl, rfl, rfl, rfl, rfl, rfl, rfl, rfl, rfl, rfl, rfl, rfl, rfl, rfl, rfl, rfl, rfl, rfl, rfl, rfl, rfl, rfl, rfl, rfl, rfl, rfl, rfl, rfl, rfl, rfl, rfl, rfl, rfl, rfl, rfl, rfl, rfl, rfl, rfl, rfl, rfl, rfl, rfl, rfl, rfl, rfl, rfl, rfl, rfl, rfl, rfl, rfl, rfl, rfl, rfl, rfl, rfl, rfl, rfl, rfl, rfl, rfl, rfl, rfl, rfl⟩
def eqk : Nat → List Nat := fun t => if t = 176 then [1, 1, 3] else if t = 181 then [3, 1, 1, 3] else if t = 188 then [3, 1] else if t = 193 then [3, 1] else if t = 199 then [1, 1, 1, 3, 1, 1, 3] else if t = 206 then [1, 1, 3] else if t = 208 then [3, 1, 1, 3] else if t = 215 then [1, 1, 1, 3, 1, 1, 3] else []
theorem bz {v : Value} (h : dP v = 1) : ∃ x : Int, v = .int .i64 x := by
 cases v with
 | int k n => cases k <;> simp_all [dP]
 | _ => simp_all [dP]
theorem cM {v : Value} (h : dP v = 3) : ∃ x : ByteArray, v = .string x := by
 cases v with
 | int k n => cases k <;> simp_all [dP]
 | _ => simp_all [dP]
theorem lU {xs : List Value} (h : xs.map dP = [1, 1, 3]) : ∃ (x0 : Int) (x1 : Int) (x2 : ByteArray), xs = [.int .i64 x0, .int .i64 x1, .string x2] := by
 obtain ⟨v0, xs, rfl⟩ : ∃ v l, xs = v :: l := by cases xs with
  | nil => simp at h
  | cons v l => exact ⟨v, l, rfl⟩
 simp only [List.map_cons, List.cons.injEq] at h
 obtain ⟨h0, h⟩ := h
 obtain ⟨v1, xs, rfl⟩ : ∃ v l, xs = v :: l := by cases xs with
  | nil => simp at h
  | cons v l => exact ⟨v, l, rfl⟩
 simp only [List.map_cons, List.cons.injEq] at h
 obtain ⟨h1, h⟩ := h
 obtain ⟨v2, xs, rfl⟩ : ∃ v l, xs = v :: l := by cases xs with
  | nil => simp at h
  | cons v l => exact ⟨v, l, rfl⟩
 simp only [List.map_cons, List.cons.injEq] at h
 obtain ⟨h2, h⟩ := h
 have : xs = [] := by simpa using h
 subst this
 obtain ⟨x0, rfl⟩ := bz h0
 obtain ⟨x1, rfl⟩ := bz h1
 obtain ⟨x2, rfl⟩ := cM h2
 exact ⟨x0, x1, x2, rfl⟩
theorem lV {xs : List Value} (h : xs.map dP = [3, 1, 1, 3]) : ∃ (x0 : ByteArray) (x1 : Int) (x2 : Int) (x3 : ByteArray), xs = [.string x0, .int .i64 x1, .int .i64 x2, .string x3] := by
 obtain ⟨v0, xs, rfl⟩ : ∃ v l, xs = v :: l := by cases xs with
  | nil => simp at h
  | cons v l => exact ⟨v, l, rfl⟩
 simp only [List.map_cons, List.cons.injEq] at h
 obtain ⟨h0, h⟩ := h
 obtain ⟨v1, xs, rfl⟩ : ∃ v l, xs = v :: l := by cases xs with
  | nil => simp at h
  | cons v l => exact ⟨v, l, rfl⟩
 simp only [List.map_cons, List.cons.injEq] at h
 obtain ⟨h1, h⟩ := h
 obtain ⟨v2, xs, rfl⟩ : ∃ v l, xs = v :: l := by cases xs with
  | nil => simp at h
  | cons v l => exact ⟨v, l, rfl⟩
 simp only [List.map_cons, List.cons.injEq] at h
 obtain ⟨h2, h⟩ := h
 obtain ⟨v3, xs, rfl⟩ : ∃ v l, xs = v :: l := by cases xs with
  | nil => simp at h
  | cons v l => exact ⟨v, l, rfl⟩
 simp only [List.map_cons, List.cons.injEq] at h
 obtain ⟨h3, h⟩ := h
 have : xs = [] := by simpa using h
 subst this
 obtain ⟨x0, rfl⟩ := cM h0
 obtain ⟨x1, rfl⟩ := bz h1
 obtain ⟨x2, rfl⟩ := bz h2
 obtain ⟨x3, rfl⟩ := cM h3
 exact ⟨x0, x1, x2, x3, rfl⟩
theorem lW {xs : List Value} (h : xs.map dP = [3, 1]) : ∃ (x0 : ByteArray) (x1 : Int), xs = [.string x0, .int .i64 x1] := by
 obtain ⟨v0, xs, rfl⟩ : ∃ v l, xs = v :: l := by cases xs with
  | nil => simp at h
  | cons v l => exact ⟨v, l, rfl⟩
 simp only [List.map_cons, List.cons.injEq] at h
 obtain ⟨h0, h⟩ := h
 obtain ⟨v1, xs, rfl⟩ : ∃ v l, xs = v :: l := by cases xs with
  | nil => simp at h
  | cons v l => exact ⟨v, l, rfl⟩
 simp only [List.map_cons, List.cons.injEq] at h
 obtain ⟨h1, h⟩ := h
 have : xs = [] := by simpa using h
 subst this
 obtain ⟨x0, rfl⟩ := cM h0
 obtain ⟨x1, rfl⟩ := bz h1
 exact ⟨x0, x1, rfl⟩
theorem lX {xs : List Value} (h : xs.map dP = [3, 1]) : ∃ (x0 : ByteArray) (x1 : Int), xs = [.string x0, .int .i64 x1] := by
 obtain ⟨v0, xs, rfl⟩ : ∃ v l, xs = v :: l := by cases xs with
  | nil => simp at h
  | cons v l => exact ⟨v, l, rfl⟩
 simp only [List.map_cons, List.cons.injEq] at h
 obtain ⟨h0, h⟩ := h
 obtain ⟨v1, xs, rfl⟩ : ∃ v l, xs = v :: l := by cases xs with
  | nil => simp at h
  | cons v l => exact ⟨v, l, rfl⟩
 simp only [List.map_cons, List.cons.injEq] at h
 obtain ⟨h1, h⟩ := h
 have : xs = [] := by simpa using h
 subst this
 obtain ⟨x0, rfl⟩ := cM h0
 obtain ⟨x1, rfl⟩ := bz h1
 exact ⟨x0, x1, rfl⟩
theorem lY {xs : List Value} (h : xs.map dP = [1, 1, 1, 3, 1, 1, 3]) : ∃ (x0 : Int) (x1 : Int) (x2 : Int) (x3 : ByteArray) (x4 : Int) (x5 : Int) (x6 : ByteArray), xs = [.int .i64 x0, .int .i64 x1, .int .i64 x2, .string x3, .int .i64 x4, .int .i64 x5, .string x6] := by
 obtain ⟨v0, xs, rfl⟩ : ∃ v l, xs = v :: l := by cases xs with
  | nil => simp at h
  | cons v l => exact ⟨v, l, rfl⟩
 simp only [List.map_cons, List.cons.injEq] at h
 obtain ⟨h0, h⟩ := h
 obtain ⟨v1, xs, rfl⟩ : ∃ v l, xs = v :: l := by cases xs with
  | nil => simp at h
  | cons v l => exact ⟨v, l, rfl⟩
 simp only [List.map_cons, List.cons.injEq] at h
 obtain ⟨h1, h⟩ := h
 obtain ⟨v2, xs, rfl⟩ : ∃ v l, xs = v :: l := by cases xs with
  | nil => simp at h
  | cons v l => exact ⟨v, l, rfl⟩
 simp only [List.map_cons, List.cons.injEq] at h
 obtain ⟨h2, h⟩ := h
 obtain ⟨v3, xs, rfl⟩ : ∃ v l, xs = v :: l := by cases xs with
  | nil => simp at h
  | cons v l => exact ⟨v, l, rfl⟩
 simp only [List.map_cons, List.cons.injEq] at h
 obtain ⟨h3, h⟩ := h
 obtain ⟨v4, xs, rfl⟩ : ∃ v l, xs = v :: l := by cases xs with
  | nil => simp at h
  | cons v l => exact ⟨v, l, rfl⟩
 simp only [List.map_cons, List.cons.injEq] at h
 obtain ⟨h4, h⟩ := h
 obtain ⟨v5, xs, rfl⟩ : ∃ v l, xs = v :: l := by cases xs with
  | nil => simp at h
  | cons v l => exact ⟨v, l, rfl⟩
 simp only [List.map_cons, List.cons.injEq] at h
 obtain ⟨h5, h⟩ := h
 obtain ⟨v6, xs, rfl⟩ : ∃ v l, xs = v :: l := by cases xs with
  | nil => simp at h
  | cons v l => exact ⟨v, l, rfl⟩
 simp only [List.map_cons, List.cons.injEq] at h
 obtain ⟨h6, h⟩ := h
 have : xs = [] := by simpa using h
 subst this
 obtain ⟨x0, rfl⟩ := bz h0
 obtain ⟨x1, rfl⟩ := bz h1
 obtain ⟨x2, rfl⟩ := bz h2
 obtain ⟨x3, rfl⟩ := cM h3
 obtain ⟨x4, rfl⟩ := bz h4
 obtain ⟨x5, rfl⟩ := bz h5
 obtain ⟨x6, rfl⟩ := cM h6
 exact ⟨x0, x1, x2, x3, x4, x5, x6, rfl⟩
theorem lZ {xs : List Value} (h : xs.map dP = [1, 1, 3]) : ∃ (x0 : Int) (x1 : Int) (x2 : ByteArray), xs = [.int .i64 x0, .int .i64 x1, .string x2] := by
 obtain ⟨v0, xs, rfl⟩ : ∃ v l, xs = v :: l := by cases xs with
  | nil => simp at h
  | cons v l => exact ⟨v, l, rfl⟩
 simp only [List.map_cons, List.cons.injEq] at h
 obtain ⟨h0, h⟩ := h
 obtain ⟨v1, xs, rfl⟩ : ∃ v l, xs = v :: l := by cases xs with
  | nil => simp at h
  | cons v l => exact ⟨v, l, rfl⟩
 simp only [List.map_cons, List.cons.injEq] at h
 obtain ⟨h1, h⟩ := h
 obtain ⟨v2, xs, rfl⟩ : ∃ v l, xs = v :: l := by cases xs with
  | nil => simp at h
  | cons v l => exact ⟨v, l, rfl⟩
 simp only [List.map_cons, List.cons.injEq] at h
 obtain ⟨h2, h⟩ := h
 have : xs = [] := by simpa using h
 subst this
 obtain ⟨x0, rfl⟩ := bz h0
 obtain ⟨x1, rfl⟩ := bz h1
 obtain ⟨x2, rfl⟩ := cM h2
 exact ⟨x0, x1, x2, rfl⟩
theorem l3 {xs : List Value} (h : xs.map dP = [3, 1, 1, 3]) : ∃ (x0 : ByteArray) (x1 : Int) (x2 : Int) (x3 : ByteArray), xs = [.string x0, .int .i64 x1, .int .i64 x2, .string x3] := by
 obtain ⟨v0, xs, rfl⟩ : ∃ v l, xs = v :: l := by cases xs with
  | nil => simp at h
  | cons v l => exact ⟨v, l, rfl⟩
 simp only [List.map_cons, List.cons.injEq] at h
 obtain ⟨h0, h⟩ := h
 obtain ⟨v1, xs, rfl⟩ : ∃ v l, xs = v :: l := by cases xs with
  | nil => simp at h
  | cons v l => exact ⟨v, l, rfl⟩
 simp only [List.map_cons, List.cons.injEq] at h
 obtain ⟨h1, h⟩ := h
 obtain ⟨v2, xs, rfl⟩ : ∃ v l, xs = v :: l := by cases xs with
  | nil => simp at h
  | cons v l => exact ⟨v, l, rfl⟩
 simp only [List.map_cons, List.cons.injEq] at h
 obtain ⟨h2, h⟩ := h
 obtain ⟨v3, xs, rfl⟩ : ∃ v l, xs = v :: l := by cases xs with
  | nil => simp at h
  | cons v l => exact ⟨v, l, rfl⟩
 simp only [List.map_cons, List.cons.injEq] at h
 obtain ⟨h3, h⟩ := h
 have : xs = [] := by simpa using h
 subst this
 obtain ⟨x0, rfl⟩ := cM h0
 obtain ⟨x1, rfl⟩ := bz h1
 obtain ⟨x2, rfl⟩ := bz h2
 obtain ⟨x3, rfl⟩ := cM h3
 exact ⟨x0, x1, x2, x3, rfl⟩
theorem l4 {xs : List Value} (h : xs.map dP = [1, 1, 1, 3, 1, 1, 3]) : ∃ (x0 : Int) (x1 : Int) (x2 : Int) (x3 : ByteArray) (x4 : Int) (x5 : Int) (x6 : ByteArray), xs = [.int .i64 x0, .int .i64 x1, .int .i64 x2, .string x3, .int .i64 x4, .int .i64 x5, .string x6] := by
 obtain ⟨v0, xs, rfl⟩ : ∃ v l, xs = v :: l := by cases xs with
  | nil => simp at h
  | cons v l => exact ⟨v, l, rfl⟩
 simp only [List.map_cons, List.cons.injEq] at h
 obtain ⟨h0, h⟩ := h
 obtain ⟨v1, xs, rfl⟩ : ∃ v l, xs = v :: l := by cases xs with
  | nil => simp at h
  | cons v l => exact ⟨v, l, rfl⟩
 simp only [List.map_cons, List.cons.injEq] at h
 obtain ⟨h1, h⟩ := h
 obtain ⟨v2, xs, rfl⟩ : ∃ v l, xs = v :: l := by cases xs with
  | nil => simp at h
  | cons v l => exact ⟨v, l, rfl⟩
 simp only [List.map_cons, List.cons.injEq] at h
 obtain ⟨h2, h⟩ := h
 obtain ⟨v3, xs, rfl⟩ : ∃ v l, xs = v :: l := by cases xs with
  | nil => simp at h
  | cons v l => exact ⟨v, l, rfl⟩
 simp only [List.map_cons, List.cons.injEq] at h
 obtain ⟨h3, h⟩ := h
 obtain ⟨v4, xs, rfl⟩ : ∃ v l, xs = v :: l := by cases xs with
  | nil => simp at h
  | cons v l => exact ⟨v, l, rfl⟩
 simp only [List.map_cons, List.cons.injEq] at h
 obtain ⟨h4, h⟩ := h
 obtain ⟨v5, xs, rfl⟩ : ∃ v l, xs = v :: l := by cases xs with
  | nil => simp at h
  | cons v l => exact ⟨v, l, rfl⟩
 simp only [List.map_cons, List.cons.injEq] at h
 obtain ⟨h5, h⟩ := h
 obtain ⟨v6, xs, rfl⟩ : ∃ v l, xs = v :: l := by cases xs with
  | nil => simp at h
  | cons v l => exact ⟨v, l, rfl⟩
 simp only [List.map_cons, List.cons.injEq] at h
 obtain ⟨h6, h⟩ := h
 have : xs = [] := by simpa using h
 subst this
 obtain ⟨x0, rfl⟩ := bz h0
 obtain ⟨x1, rfl⟩ := bz h1
 obtain ⟨x2, rfl⟩ := bz h2
 obtain ⟨x3, rfl⟩ := cM h3
 obtain ⟨x4, rfl⟩ := bz h4
 obtain ⟨x5, rfl⟩ := bz h5
 obtain ⟨x6, rfl⟩ := cM h6
 exact ⟨x0, x1, x2, x3, x4, x5, x6, rfl⟩
set_option maxHeartbeats 1000000 in
theorem DX : EqT Tryz.prog 176 [1, 1, 3] := by
 refine ⟨by decide, fun w xs ys hx hy => ?_, fun w xs ys hx hy => ?_, fun op x y xs ys w => run_eqGuard_agg w op 176 x y xs ys Tryz.eqGuardType176⟩
 ·obtain ⟨x0, x1, x2, hx⟩ := lU hx
  obtain ⟨y0, y1, y2, hy⟩ := lU hy
  subst hx; subst hy
  simp [go_sem, gT, eqV, cE, bx]
  (repeat' split) <;> simp_all
 ·obtain ⟨x0, x1, x2, hx⟩ := lU hx
  obtain ⟨y0, y1, y2, hy⟩ := lU hy
  subst hx; subst hy
  simp [go_sem, gT, eqV, cE, bx]
  (repeat' split) <;> simp_all
set_option maxHeartbeats 1000000 in
theorem DY : EqT Tryz.prog 181 [3, 1, 1, 3] := by
 refine ⟨by decide, fun w xs ys hx hy => ?_, fun w xs ys hx hy => ?_, fun op x y xs ys w => run_eqGuard_agg w op 181 x y xs ys Tryz.eqGuardType181⟩
 ·obtain ⟨x0, x1, x2, x3, hx⟩ := lV hx
  obtain ⟨y0, y1, y2, y3, hy⟩ := lV hy
  subst hx; subst hy
  simp [go_sem, gT, eqV, cE, bx]
  (repeat' split) <;> simp_all
 ·obtain ⟨x0, x1, x2, x3, hx⟩ := lV hx
  obtain ⟨y0, y1, y2, y3, hy⟩ := lV hy
  subst hx; subst hy
  simp [go_sem, gT, eqV, cE, bx]
  (repeat' split) <;> simp_all
set_option maxHeartbeats 1000000 in
theorem DZ : EqT Tryz.prog 188 [3, 1] := by
 refine ⟨by decide, fun w xs ys hx hy => ?_, fun w xs ys hx hy => ?_, fun op x y xs ys w => run_eqGuard_agg w op 188 x y xs ys Tryz.eqGuardType188⟩
 ·obtain ⟨x0, x1, hx⟩ := lW hx
  obtain ⟨y0, y1, hy⟩ := lW hy
  subst hx; subst hy
  simp [go_sem, gT, eqV, cE, bx]
  (repeat' split) <;> simp_all
 ·obtain ⟨x0, x1, hx⟩ := lW hx
  obtain ⟨y0, y1, hy⟩ := lW hy
  subst hx; subst hy
  simp [go_sem, gT, eqV, cE, bx]
  (repeat' split) <;> simp_all
set_option maxHeartbeats 1000000 in
theorem D0 : EqT Tryz.prog 193 [3, 1] := by
 refine ⟨by decide, fun w xs ys hx hy => ?_, fun w xs ys hx hy => ?_, fun op x y xs ys w => run_eqGuard_agg w op 193 x y xs ys Tryz.eqGuardType193⟩
 ·obtain ⟨x0, x1, hx⟩ := lX hx
  obtain ⟨y0, y1, hy⟩ := lX hy
  subst hx; subst hy
  simp [go_sem, gT, eqV, cE, bx]
  (repeat' split) <;> simp_all
 ·obtain ⟨x0, x1, hx⟩ := lX hx
  obtain ⟨y0, y1, hy⟩ := lX hy
  subst hx; subst hy
  simp [go_sem, gT, eqV, cE, bx]
  (repeat' split) <;> simp_all
set_option maxHeartbeats 1000000 in
theorem D1 : EqT Tryz.prog 199 [1, 1, 1, 3, 1, 1, 3] := by
 refine ⟨by decide, fun w xs ys hx hy => ?_, fun w xs ys hx hy => ?_, fun op x y xs ys w => run_eqGuard_agg w op 199 x y xs ys Tryz.eqGuardType199⟩
 ·obtain ⟨x0, x1, x2, x3, x4, x5, x6, hx⟩ := lY hx
  obtain ⟨y0, y1, y2, y3, y4, y5, y6, hy⟩ := lY hy
  subst hx; subst hy
  simp [go_sem, gT, eqV, cE, bx]
  (repeat' split) <;> simp_all
 ·obtain ⟨x0, x1, x2, x3, x4, x5, x6, hx⟩ := lY hx
  obtain ⟨y0, y1, y2, y3, y4, y5, y6, hy⟩ := lY hy
  subst hx; subst hy
  simp [go_sem, gT, eqV, cE, bx]
  (repeat' split) <;> simp_all
set_option maxHeartbeats 1000000 in
theorem D2 : EqT Tryz.prog 206 [1, 1, 3] := by
 refine ⟨by decide, fun w xs ys hx hy => ?_, fun w xs ys hx hy => ?_, fun op x y xs ys w => run_eqGuard_agg w op 206 x y xs ys Tryz.eqGuardType206⟩
 ·obtain ⟨x0, x1, x2, hx⟩ := lZ hx
  obtain ⟨y0, y1, y2, hy⟩ := lZ hy
  subst hx; subst hy
  simp [go_sem, gT, eqV, cE, bx]
  (repeat' split) <;> simp_all
 ·obtain ⟨x0, x1, x2, hx⟩ := lZ hx
  obtain ⟨y0, y1, y2, hy⟩ := lZ hy
  subst hx; subst hy
  simp [go_sem, gT, eqV, cE, bx]
  (repeat' split) <;> simp_all
set_option maxHeartbeats 1000000 in
theorem D3 : EqT Tryz.prog 208 [3, 1, 1, 3] := by
 refine ⟨by decide, fun w xs ys hx hy => ?_, fun w xs ys hx hy => ?_, fun op x y xs ys w => run_eqGuard_agg w op 208 x y xs ys Tryz.eqGuardType208⟩
 ·obtain ⟨x0, x1, x2, x3, hx⟩ := l3 hx
  obtain ⟨y0, y1, y2, y3, hy⟩ := l3 hy
  subst hx; subst hy
  simp [go_sem, gT, eqV, cE, bx]
  (repeat' split) <;> simp_all
 ·obtain ⟨x0, x1, x2, x3, hx⟩ := l3 hx
  obtain ⟨y0, y1, y2, y3, hy⟩ := l3 hy
  subst hx; subst hy
  simp [go_sem, gT, eqV, cE, bx]
  (repeat' split) <;> simp_all
set_option maxHeartbeats 1000000 in
theorem D4 : EqT Tryz.prog 215 [1, 1, 1, 3, 1, 1, 3] := by
 refine ⟨by decide, fun w xs ys hx hy => ?_, fun w xs ys hx hy => ?_, fun op x y xs ys w => run_eqGuard_agg w op 215 x y xs ys Tryz.eqGuardType215⟩
 ·obtain ⟨x0, x1, x2, x3, x4, x5, x6, hx⟩ := l4 hx
  obtain ⟨y0, y1, y2, y3, y4, y5, y6, hy⟩ := l4 hy
  subst hx; subst hy
  simp [go_sem, gT, eqV, cE, bx]
  (repeat' split) <;> simp_all
 ·obtain ⟨x0, x1, x2, x3, x4, x5, x6, hx⟩ := l4 hx
  obtain ⟨y0, y1, y2, y3, y4, y5, y6, hy⟩ := l4 hy
  subst hx; subst hy
  simp [go_sem, gT, eqV, cE, bx]
  (repeat' split) <;> simp_all
theorem A6 : ∀ t, eqk t ≠ [] → EqT Tryz.prog t (eqk t) := by
 intro t h
 unfold eqk at h ⊢
 by_cases e176 : t = 176
 ·subst e176; exact DX
 simp only [e176, if_false] at h ⊢
 by_cases e181 : t = 181
 ·subst e181; exact DY
 simp only [e181, if_false] at h ⊢
 by_cases e188 : t = 188
 ·subst e188; exact DZ
 simp only [e188, if_false] at h ⊢
 by_cases e193 : t = 193
 ·subst e193; exact D0
 simp only [e193, if_false] at h ⊢
 by_cases e199 : t = 199
 ·subst e199; exact D1
 simp only [e199, if_false] at h ⊢
 by_cases e206 : t = 206
 ·subst e206; exact D2
 simp only [e206, if_false] at h ⊢
 by_cases e208 : t = 208
 ·subst e208; exact D3
 simp only [e208, if_false] at h ⊢
 by_cases e215 : t = 215
 ·subst e215; exact D4
 simp only [e215, if_false] at h ⊢
 exact (h rfl).elim
noncomputable def EV (C : Ctx) : Env := ⟨Tryz.prog, tt, C, eqk⟩
theorem FD (C : Ctx) : (EV C).T = tt := rfl
theorem FE (C : Ctx) : (EV C).eqk = eqk := rfl
attribute [go_sem] tts FD FE eqk
theorem reg {C : Ctx} {id : Nat} {ops : List Oper} {F : Ex → St → Prop} {st : St} (h : vcRun (EV C) ops ops st (F .normal) ⟨⟩) : WP Tryz.prog C (.region id ops.toArray false) F st := yN (E := EV C) th A6 h.out
instance nReg {C : Ctx} {id : Nat} {ops : List Oper} {F : Ex → St → Prop} {st : St} : Ny (WP Tryz.prog C (.region id ops.toArray false) F st) (vcRun (EV C) ops ops st (F .normal) ⟨⟩) := ⟨reg⟩
instance nCond {C : Ctx} {c : Operand} {x y : Code} {F : Ex → St → Prop} {st : St} : Ny (WP Tryz.prog C (.cond c x y) F st) (Nm (cndK (ev st c) (WP Tryz.prog C x F st) (WP Tryz.prog C y F st) ⟨⟩)) := ⟨fun h => by obtain ⟨b, hs, h1, h2⟩ := h; exact B9 (E := EV C) hs h1 h2⟩
instance clT {C : Ctx} {f : Nat} {args args' : List SV} {res : SV} {st : St} {K : St → SV → Prop} : Cy Tryz.prog f args' res (CallT (EV C) f args st K ⟨⟩) (args.map (dw (aW st.h (cQ args))) = args' ∧ args'.all bX = true) (Nm (K ⟨st.t, aW st.h (cQ args) ++ adH res.all⟩ (adS (aW st.h (cQ args)).length res))) := ⟨fun h o k => ⟨CallS.frz (E := EV C) h o.1 o.2 k⟩⟩
instance clD {C : Ctx} {f : Nat} {args args' : List SV} {res : SV} {h : List HB} {k : SV → Prop} : Cy Tryz.prog f args' res (CallD (EV C) f args h k ⟨⟩) ((args.map (dw h) = args' ∧ args'.all bX = true) ∧ res.all.all isD = true) (Nm (k res)) := ⟨fun hf o hk => CallD.of_fn (E := EV C) hf o.1.1 o.1.2 o.2 hk⟩
instance clX {C : Ctx} {f : Nat} {args args' : List SV} {res : SV} {h : List HB} {k : SV → Prop} : Cy Tryz.prog f args' res (CallX (EV C) f args h k ⟨⟩) ((args.map (dw h) = args' ∧ args'.all bX = true) ∧ (res.all.all isD || bL res) = true) (Nm (k (lG res))) := ⟨fun hf o hk => by
 cases hd : res.all.all isD with
 | true =>
  have hk : k (lG res) := hk
  rw [zt hd] at hk
  exact ⟨.inl (CallD.of_fn (E := EV C) hf o.1.1 o.1.2 hd hk)⟩
 | false =>
  have ho := o.2
  rw [hd, Bool.false_or] at ho
  exact ⟨.inr ⟨args', res, hf, o.1.1, o.1.2, ho, hk⟩⟩⟩
instance clG {C : Ctx} {f : Nat} {args args' : List SV} {res : SV} {h : List HB} {k : List HB → SV → Prop} : Cy Tryz.prog f args' res (CallG (EV C) f args h k ⟨⟩) (args.map (dw (aW h (cQ args))) = args' ∧ args'.all bX = true) (Nm (k (aW h (cQ args) ++ adH res.all) (adS (aW h (cQ args)).length res))) := ⟨fun hf o hk => CallG.frz (E := EV C) hf o.1 o.2 hk⟩
theorem fol : Tryz.prog.follows .mixedOrders = true := by kernel_rfl
theorem rc {C : Ctx} {id : Nat} {ops : List Oper} {F : Ex → St → Prop} {st : St} (hB : Region.lexB .any ops.toArray = true) (h : vcDRun (EV C) ops ops st (F .normal) ⟨⟩) : WP Tryz.prog C (.region id ops.toArray true) F st := Ch (E := EV C) th A6 fol hB h.out
theorem ent {f : Nat} {fn : Func} {c : Code} {rs : List ResultVar} {args : List SV} {res : SV} (hf : Tryz.prog.funcs[f]? = some fn) (hb : fn.body = some c) (hcall : ∀ x w, (callFunc f x).run Tryz.prog w = .ok (.enter f x) w) (hres : fn.results = rs.toArray)
    (h : ∀ C : Ctx, WP Tryz.prog C c (br Tryz.prog C [] (Av (EV C) rs res)) (st0 args fn.ntmps)) : FnC Tryz.prog f args res := FnC.of_wp (eqk := eqk) th hf hb hcall hres fun C _ => h C
theorem EU {C : Ctx} {f : Nat} {args args' : List SV} {res : SV} {h : List HB} {k : SV → Prop} (hf : FnC Tryz.prog f args' res) (h1 : args.map (bT h) = args') (h2 : args'.all bX = true) (h3 : res.all.all isD = true) (h4 : res.all.all gA = true) (hk : k res) : CallD (EV C) f args h k ⟨⟩ := CallD.of_own (E := EV C) hf h1 h2 h3 h4 hk
theorem FF {C : Ctx} {f : Nat} {args args' : List SV} {res : SV} {st : St} {K : St → SV → Prop} (h : FnC Tryz.prog f args' res) (he : args.map (bT (aW st.h (cQ args))) = args') (hfree : args'.all bX = true) (hres : res.all.all gA = true) (k : K ⟨st.t, aW st.h (cQ args) ++ adG (fun _ => none) 0 res.all⟩ (adS (aW st.h (cQ args)).length res)) : CallT (EV C) f args st K ⟨⟩ := ⟨CallS.lendF (E := EV C) h he hfree hres k⟩
theorem FG {C : Ctx} {f : Nat} {b : Bool} {cs outs : List At} {n res : Int} {a0 : SV} {st : St} {K : St → SV → Prop} (h : FnM Tryz.prog f b cs outs n res) (ha : isG a0 = some b) (hm : cm st.h a0.cells cs outs) (k : K ⟨st.t, ii st.h a0.cells outs⟩ (oi res)) : CallT (EV C) f [a0, oi n] st K ⟨⟩ := ⟨CallS.mark (E := EV C) h (yR ha) hm k⟩
theorem FH {C : Ctx} {f : Nat} {ty0 ty1 sz' : Nat} {sub0 sub1 : List (List D)} {n res : Int} {id sz i fo : Nat} {st : St} {K : St → SV → Prop} (h : FnM Tryz.prog f false [.w ty0 sz' sub0] [.w ty1 sz' sub1] n res) (ok : o5 st.h id sz i fo sz' sub0) (k : K ⟨st.t, ut st.h id i fo sub1⟩ (oi res)) : CallT (EV C) f [.o (.n id sz i fo), oi n] st K ⟨⟩ := ⟨CallS.partC (E := EV C) h ok k⟩
theorem FI {C : Ctx} {f ty sz id : Nat} {rows rows' : List (List D)} {args' rest : List SV} {st : St} {K : St → SV → Prop} (h : FnI Tryz.prog f ty sz rows args' false rows') (hid : b7 (aW st.h (cQ rest)) id = .row ty sz rows true) (he : rest.map (dw (aW st.h (cQ rest))) = args') (hfree : args'.all bX = true) (k : K ⟨st.t.map (fe id), dO ((aW st.h (cQ rest)).map (ff id)) id (.row ty sz rows' true)⟩ (.o (.s id))) : CallT (EV C) f (.o (.s id) :: rest) st K ⟨⟩ := ⟨CallS.give (E := EV C) h hid he hfree (by simpa using k)⟩
theorem FJ {C : Ctx} {f ty sz id : Nat} {rows rows' : List (List D)} {args' rest : List SV} {st : St} {K : St → SV → Prop} (h : FnI Tryz.prog f ty sz rows args' true rows') (hid : b7 (aW st.h (cQ rest)) id = .row ty sz rows true) (he : rest.map (dw (aW st.h (cQ rest))) = args') (hfree : args'.all bX = true) (k : K ⟨st.t, dO (aW st.h (cQ rest)) id (.row ty sz rows' true)⟩ (.t [])) : CallT (EV C) f (.o (.s id) :: rest) st K ⟨⟩ := ⟨CallS.give (E := EV C) h hid he hfree (by simpa using k)⟩
theorem FK {C : Ctx} {f ty sz id id2 : Nat} {i : Int} {rows rows2 rows' : List (List D)} {st : St} {K : St → SV → Prop} (h : FnJ Tryz.prog f ty sz rows i rows2 rows') (hid : b7 st.h id = .row ty sz rows true) (hid2 : b7 st.h id2 = .row ty sz rows2 true) (hne : id ≠ id2) (k : K ⟨st.t.map (fe id), dO ((b8 st.h [id2]).map (ff id)) id (.row ty sz rows' true)⟩ (.o (.s id))) : CallT (EV C) f [.o (.s id), oi i, .o (.s id2)] st K ⟨⟩ := ⟨CallS.join (E := EV C) h hid hid2 hne k⟩
theorem FL {C : Ctx} {f : Nat} {args args' : List SV} {res : SV} {st : St} {K : St → SV → Prop} (h : FnC Tryz.prog f args' res) (he : args.map (bT st.h) = args') (hfree : args'.all bX = true) (hres : res.all.all gA = true) (k : K ⟨st.t, st.h ++ adG (fun _ => none) 0 res.all⟩ (adS st.h.length res)) : CallT (EV C) f args st K ⟨⟩ := ⟨CallS.lend (E := EV C) h he hfree hres k⟩
theorem CJ {C : Ctx} {id : Nat} {ops l : List Oper} {F : Ex → St → Prop} {st : St} (hl : bJ ops = l) (hB : ux .any ops (bJ ops).length (bJ ops).length 0 (Array.replicate ops.length false) = true) (hb : nI .any ops (bJ ops).length = true) (hn : (ops.any fun o => match o.op with | .buildSlice .. | .alloc .. | .store .. => true | .call c => (match c.callee with | .builtin .append => true | _ => false) | _ => false) = true) (hok : st.okB = true) (htag : (st.t.all fun s => !bL s) = true) (h : vcXRun (EV C) ops l st (fun st' => vcXEnd (EV C) ops st' (F .normal) ⟨⟩) ⟨⟩) : WP Tryz.prog C (.region id ops.toArray true) F st := by
 subst hl
 have e : (fun st' => vcXEnd (EV C) ops st' (F .normal) ⟨⟩) = (fun st' => gl (EV C) ops (jr ops) (uG (EV C) ops st') (F .normal)) := funext fun s => propext ⟨fun h => h.out, fun h => ⟨h⟩⟩
 rw [e] at h
 exact AH (E := EV C) th A6 fol hB hb hok htag h.out
theorem FM (fz : List Nat) {C : Ctx} {id : Nat} {ops l : List Oper} {F : Ex → St → Prop} {st : St} (hl : bJ ops = l) (hB : ux .any ops (bJ ops).length (bJ ops).length 0 (Array.replicate ops.length false) = true) (hb : nI .any ops (bJ ops).length = true) (hn : (ops.any fun o => match o.op with | .buildSlice .. | .alloc .. | .store .. => true | .call c => (match c.callee with | .builtin .append => true | _ => false) | _ => false) = true) (hok : (⟨st.t, aW st.h fz⟩ : St).okB = true) (htag : (st.t.all fun s => !bL s) = true) (h : vcXRun (EV C) ops l ⟨st.t, aW st.h fz⟩ (fun st' => vcXEnd (EV C) ops st' (F .normal) ⟨⟩) ⟨⟩) : WP Tryz.prog C (.region id ops.toArray true) F st :=
 fun g V a w hr => by
  obtain ⟨g', V', hr', _⟩ := eK fz hr
  exact CJ (st := ⟨st.t, aW st.h fz⟩) hl hB hb hn hok htag h g' V' a w hr'
theorem entm {f : Nat} {fn : Func} {c : Code} {rs : List ResultVar} {b : Bool} {cs outs : List At} {n res : Int} (hf : Tryz.prog.funcs[f]? = some fn) (hb : fn.body = some c) (hcall : ∀ x w, (callFunc f x).run Tryz.prog w = .ok (.enter f x) w) (hres : fn.results = rs.toArray) (hone : b = false → cs.length = 1) (hsh : shp cs outs)
    (h : ∀ (C : Ctx) (tg : Nat → Option (Value × List Nat × List Value)), WP Tryz.prog C c (br Tryz.prog C [] (EM (EV C) rs res (adG tg 0 outs))) (stM tg b cs n fn.ntmps)) : FnM Tryz.prog f b cs outs n res := FnM.of_wp (eqk := eqk) th hf hb hcall hres hone hsh h
theorem FN {C : Ctx} {f : Nat} {args args' : List SV} {res : SV} {st : St} {K : St → SV → Prop} (h : FnC Tryz.prog f args' res) (he : args.map (bT st.h) = args') (hfree : args'.all bX = true) (hres : res.all.all gA = true) (k : K ⟨st.t, st.h ++ adH res.all⟩ (adS st.h.length res)) : CallT (EV C) f args st K ⟨⟩ := ⟨CallS.lendW (E := EV C) h he hfree hres k⟩
theorem rS {C : Ctx} {id : Nat} {ops l m : List Oper} {F : Ex → St → Prop} {st : St} (ps ds : List Nat) (hl : rdX ds ops = l) (hm : tk ops = m) (hok : (yf ops ps ds && zl ps ops && ps.all fun i => decide (i < ops.length)) = true) (hb : st.okB = true) (h : vcGRun (EV C) ds ops m st (fun st1 => vcStT (EV C) ops l ds ps ⟨st1.t, st.h⟩ (F .normal) ⟨⟩) ⟨⟩) : WP Tryz.prog C (.region id ops.toArray true) F st := by
 subst hl hm
 have e : (fun st1 : St => vcStT (EV C) ops (rdX ds ops) ds ps ⟨st1.t, st.h⟩ (F .normal) ⟨⟩) = (fun st1 => l5 (EV C) ops ds ps ⟨st1.t, st.h⟩ (F .normal)) := funext fun s => propext ⟨fun h => h.out rfl, fun h => ⟨fun _ => h⟩⟩
 rw [e] at h
 simp only [Bool.and_eq_true] at hok
 exact zo (E := EV C) th A6 fol ps ds hok.1.1 hok.1.2 hok.2 hb h.out
theorem cGr {C : Ctx} {f : Nat} {args args' : List SV} {res : SV} {h : List HB} {k : List HB → SV → Prop} (hf : FnC Tryz.prog f args' res) (he : args.map (bT h) = args') (hfree : args'.all bX = true) (hres : res.all.all gA = true) (hk : k (h ++ adH res.all) (adS h.length res)) : CallG (EV C) f args h k ⟨⟩ := CallG.lendW (E := EV C) hf he hfree hres hk
theorem cDr {C : Ctx} {f ty sz : Nat} {rows : List (List D)} {args args' : List SV} {h : List HB} {k : SV → Prop} (hf : FnC Tryz.prog f args' (.o (.w ty sz rows))) (h1 : args.map (bT h) = args') (h2 : args'.all bX = true) (h3 : gm rows = true) (hk : k (.o (.d (.sl rows)))) : CallD (EV C) f args h k ⟨⟩ := CallD.of_lend (E := EV C) hf h1 h2 h3 hk
theorem vO {C : Ctx} {f : Nat} {args args' : List SV} {res : SV} {st : St} {K : St → SV → Prop} (h : FnC Tryz.prog f args' res) (k : Nm (K ⟨st.t, aW st.h (cQ args) ++ adG (fun _ => none) 0 res.all⟩ (adS (aW st.h (cQ args)).length res))) (he : args.map (bT (aW st.h (cQ args))) = args' := by simp only [go_sem, qH] <;> fail) (hfree : args'.all bX = true := by simp only [go_sem, qH] <;> fail) (hres : res.all.all gA = true := by simp only [go_sem, qH] <;> fail) : CallT (EV C) f args st K ⟨⟩ := FF h he hfree hres k
theorem vQ {C : Ctx} {f : Nat} {args args' : List SV} {res : SV} {h : List HB} {k : SV → Prop} (hf : FnC Tryz.prog f args' res) (hk : Nm (k res)) (h1 : args.map (bT h) = args' := by simp only [go_sem, qH] <;> fail) (h2 : args'.all bX = true := by simp only [go_sem, qH] <;> fail) (h3 : res.all.all isD = true := by simp only [go_sem, qH] <;> fail) (h4 : res.all.all gA = true := by simp only [go_sem, qH] <;> fail) : CallD (EV C) f args h k ⟨⟩ := EU hf h1 h2 h3 h4 hk
theorem vM {C : Ctx} {f : Nat} {b : Bool} {cs outs : List At} {n res : Int} {a0 : SV} {st : St} {K : St → SV → Prop} (h : FnM Tryz.prog f b cs outs n res) (k : Nm (K ⟨st.t, ii st.h a0.cells outs⟩ (oi res))) (ha : isG a0 = some b := by simp only [go_sem] <;> fail) (hm : cm st.h a0.cells cs outs := by simp only [go_sem, qH] <;> fail) : CallT (EV C) f [a0, oi n] st K ⟨⟩ := FG h ha hm k
theorem vN {C : Ctx} {f : Nat} {ty0 ty1 sz' : Nat} {sub0 sub1 : List (List D)} {n res : Int} {id sz i fo : Nat} {st : St} {K : St → SV → Prop} (h : FnM Tryz.prog f false [.w ty0 sz' sub0] [.w ty1 sz' sub1] n res) (k : Nm (K ⟨st.t, ut st.h id i fo sub1⟩ (oi res))) (ok : o5 st.h id sz i fo sz' sub0 := by simp only [go_sem, qH] <;> fail) : CallT (EV C) f [.o (.n id sz i fo), oi n] st K ⟨⟩ := FH h ok k
theorem vI {C : Ctx} {f ty sz id : Nat} {rows rows' : List (List D)} {args' rest : List SV} {st : St} {K : St → SV → Prop} (h : FnI Tryz.prog f ty sz rows args' false rows') (k : Nm (K ⟨st.t.map (fe id), dO ((aW st.h (cQ rest)).map (ff id)) id (.row ty sz rows' true)⟩ (.o (.s id)))) (hid : b7 (aW st.h (cQ rest)) id = .row ty sz rows true := by simp only [go_sem, qH] <;> fail) (he : rest.map (dw (aW st.h (cQ rest))) = args' := by simp only [go_sem, qH] <;> fail) (hfree : args'.all bX = true := by simp only [go_sem, qH] <;> fail) : CallT (EV C) f (.o (.s id) :: rest) st K ⟨⟩ := FI h hid he hfree k
theorem vJ {C : Ctx} {f ty sz id : Nat} {rows rows' : List (List D)} {args' rest : List SV} {st : St} {K : St → SV → Prop} (h : FnI Tryz.prog f ty sz rows args' true rows') (k : Nm (K ⟨st.t, dO (aW st.h (cQ rest)) id (.row ty sz rows' true)⟩ (.t []))) (hid : b7 (aW st.h (cQ rest)) id = .row ty sz rows true := by simp only [go_sem, qH] <;> fail) (he : rest.map (dw (aW st.h (cQ rest))) = args' := by simp only [go_sem, qH] <;> fail) (hfree : args'.all bX = true := by simp only [go_sem, qH] <;> fail) : CallT (EV C) f (.o (.s id) :: rest) st K ⟨⟩ := FJ h hid he hfree k
theorem vK {C : Ctx} {f ty sz id id2 : Nat} {i : Int} {rows rows2 rows' : List (List D)} {st : St} {K : St → SV → Prop} (h : FnJ Tryz.prog f ty sz rows i rows2 rows') (k : Nm (K ⟨st.t.map (fe id), dO ((b8 st.h [id2]).map (ff id)) id (.row ty sz rows' true)⟩ (.o (.s id)))) (hid : b7 st.h id = .row ty sz rows true := by simp only [go_sem, qH] <;> fail) (hid2 : b7 st.h id2 = .row ty sz rows2 true := by simp only [go_sem, qH] <;> fail) (hne : id ≠ id2 := by decide) : CallT (EV C) f [.o (.s id), oi i, .o (.s id2)] st K ⟨⟩ := FK h hid hid2 hne k
theorem vL {C : Ctx} {f : Nat} {args args' : List SV} {res : SV} {st : St} {K : St → SV → Prop} (h : FnC Tryz.prog f args' res) (k : Nm (K ⟨st.t, st.h ++ adG (fun _ => none) 0 res.all⟩ (adS st.h.length res))) (he : args.map (bT st.h) = args' := by simp only [go_sem, qH] <;> fail) (hfree : args'.all bX = true := by simp only [go_sem, qH] <;> fail) (hres : res.all.all gA = true := by simp only [go_sem, qH] <;> fail) : CallT (EV C) f args st K ⟨⟩ := FL h he hfree hres k
theorem vR {C : Ctx} {f : Nat} {args args' : List SV} {res : SV} {st : St} {K : St → SV → Prop} (h : FnC Tryz.prog f args' res) (k : Nm (K ⟨st.t, st.h ++ adH res.all⟩ (adS st.h.length res))) (he : args.map (bT st.h) = args' := by simp only [go_sem, qH] <;> fail) (hfree : args'.all bX = true := by simp only [go_sem, qH] <;> fail) (hres : res.all.all gA = true := by simp only [go_sem, qH] <;> fail) : CallT (EV C) f args st K ⟨⟩ := FN h he hfree hres k
theorem vG {C : Ctx} {f : Nat} {args args' : List SV} {res : SV} {h : List HB} {k : List HB → SV → Prop} (hf : FnC Tryz.prog f args' res) (hk : Nm (k (h ++ adH res.all) (adS h.length res))) (he : args.map (bT h) = args' := by simp only [go_sem, qH] <;> fail) (hfree : args'.all bX = true := by simp only [go_sem, qH] <;> fail) (hres : res.all.all gA = true := by simp only [go_sem, qH] <;> fail) : CallG (EV C) f args h k ⟨⟩ := cGr hf he hfree hres hk
theorem vD {C : Ctx} {f ty sz : Nat} {rows : List (List D)} {args args' : List SV} {h : List HB} {k : SV → Prop} (hf : FnC Tryz.prog f args' (.o (.w ty sz rows))) (hk : Nm (k (.o (.d (.sl rows))))) (h1 : args.map (bT h) = args' := by simp only [go_sem, qH] <;> fail) (h2 : args'.all bX = true := by simp only [go_sem, qH] <;> fail) (h3 : gm rows = true := by simp only [go_sem, qH] <;> fail) : CallD (EV C) f args h k ⟨⟩ := cDr hf h1 h2 h3 hk
theorem rD {C : Ctx} {id : Nat} {ops : List Oper} {F : Ex → St → Prop} {st : St} (h : vcDRun (EV C) ops ops st (F .normal) ⟨⟩) (hB : Region.lexB .any ops.toArray = true := by kernel_rfl) : WP Tryz.prog C (.region id ops.toArray true) F st := rc hB h
theorem rX {C : Ctx} {id : Nat} {ops l : List Oper} {F : Ex → St → Prop} {st : St} (h : vcXRun (EV C) ops l st (fun st' => vcXEnd (EV C) ops st' (F .normal) ⟨⟩) ⟨⟩) (hl : bJ ops = l := by simp only [bJ, eQ, Bool.false_eq_true, if_false, if_true]; rfl) (hB : ux .any ops (bJ ops).length (bJ ops).length 0 (Array.replicate ops.length false) = true := by kernel_rfl) (hb : nI .any ops (bJ ops).length = true := by kernel_rfl) (hn : (ops.any fun o => match o.op with | .buildSlice .. | .alloc .. | .store .. => true | .call c => (match c.callee with | .builtin .append => true | _ => false) | _ => false) = true := by decide) (hok : st.okB = true := by simp only [go_sem] <;> fail) (htag : (st.t.all fun s => !bL s) = true := by simp only [go_sem] <;> fail) : WP Tryz.prog C (.region id ops.toArray true) F st := CJ hl hB hb hn hok htag h
theorem rZ {C : Ctx} {id : Nat} {ops l : List Oper} {F : Ex → St → Prop} {st : St} (fz : List Nat) (h : vcXRun (EV C) ops l ⟨st.t, aW st.h fz⟩ (fun st' => vcXEnd (EV C) ops st' (F .normal) ⟨⟩) ⟨⟩) (hl : bJ ops = l := by simp only [bJ, eQ, Bool.false_eq_true, if_false, if_true]; rfl) (hB : ux .any ops (bJ ops).length (bJ ops).length 0 (Array.replicate ops.length false) = true := by kernel_rfl) (hb : nI .any ops (bJ ops).length = true := by kernel_rfl) (hn : (ops.any fun o => match o.op with | .buildSlice .. | .alloc .. | .store .. => true | .call c => (match c.callee with | .builtin .append => true | _ => false) | _ => false) = true := by decide) (hok : (⟨st.t, aW st.h fz⟩ : St).okB = true := by simp only [go_sem] <;> fail) (htag : (st.t.all fun s => !bL s) = true := by simp only [go_sem] <;> fail) : WP Tryz.prog C (.region id ops.toArray true) F st := FM fz hl hB hb hn hok htag h
theorem rT {C : Ctx} {id : Nat} {ops l m : List Oper} {F : Ex → St → Prop} {st : St} (ps : List Nat) (ds : List Nat) (h : vcGRun (EV C) ds ops m st (fun st1 => vcStT (EV C) ops l ds ps ⟨st1.t, st.h⟩ (F .normal) ⟨⟩) ⟨⟩) (hl : rdX ds ops = l := by simp only [go_sem]; rfl) (hm : tk ops = m := by simp only [go_sem]; rfl) (hok : (yf ops ps ds && zl ps ops && ps.all fun i => decide (i < ops.length)) = true := by decide +kernel) (hb : st.okB = true := by simp only [go_sem] <;> fail) : WP Tryz.prog C (.region id ops.toArray true) F st := rS ps ds hl hm hok hb h
end Go.Proofs.YtddimbdeggomaaaGreat
end
