/- Joined texts. -/
import Derived.Test.YtgpoopjfkplilaaGreatDoorProg
import Derived.Test.YtgpoopjfkplilaaGreatDoorZ04
import Derived.Test.YtgpoopjfkplilaaGreatDoorZ05
import Derived.KernelRfl
import Derived.ProofKit
import Derived.Test.YtgpoopjfkplilaaGreatDoorRows
import Derived.OpenShut
set_option linter.all false
section
namespace Go.Proofs.YtgpoopjfkplilaaGreatDoor
open Go Go.Sx Go.RowKit
noncomputable def ttl : List Ty := [.bad,
 .bad,
 ⟨3, 1, 8, [.d (.v (.int .i64 0))], [], 0, .i64⟩,
 ⟨3, 1, 8, [.d (.v (.int .i64 0))], [], 0, .i64⟩,
 ⟨4, 1, 1, [.d (.v (.bool false))], [], 0, .i64⟩,
 ⟨3, 1, 1, [.d (.v (.int .u8 0))], [], 0, .u8⟩,
 ⟨3, 1, 1, [.d (.v (.int .u8 0))], [], 0, .u8⟩,
 ⟨1, 4, 24, [.d (.v (.int .i64 0)), .d (.v (.int .i64 0)), .d (.v (.bool false)), .d (.v (.int .u8 0))], [(0, 2), (1, 3), (2, 4), (3, 6)], 0, .i64⟩,
 ⟨1, 4, 24, [.d (.v (.int .i64 0)), .d (.v (.int .i64 0)), .d (.v (.bool false)), .d (.v (.int .u8 0))], [(0, 2), (1, 3), (2, 4), (3, 6)], 0, .i64⟩,
 ⟨5, 1, 16, [.d (.v (.string ⟨#[]⟩))], [], 0, .i64⟩,
 ⟨5, 1, 16, [.d (.v (.string ⟨#[]⟩))], [], 0, .i64⟩,
 ⟨5, 1, 16, [.d (.v (.string ⟨#[]⟩))], [], 0, .i64⟩,
 .bad,
 .bad,
 .bad,
 .bad,
 .bad,
 .bad,
 .bad,
 .bad,
 .bad,
 .bad,
 ⟨1, 2, 32, [.d (.v (.string ⟨#[]⟩)), .d (.v (.string ⟨#[]⟩))], [(0, 9), (1, 9)], 0, .i64⟩,
 ⟨1, 2, 32, [.d (.v (.string ⟨#[]⟩)), .d (.v (.string ⟨#[]⟩))], [(0, 9), (1, 9)], 0, .i64⟩,
 .bad,
 ⟨2, 1, 24, [.z], [], 81, .i64⟩,
 ⟨2, 1, 24, [.z], [], 86, .i64⟩,
 ⟨1, 3, 56, [.z, .z, .d (.v (.int .i64 0))], [(0, 25), (1, 26), (2, 3)], 0, .i64⟩,
 ⟨1, 3, 56, [.z, .z, .d (.v (.int .i64 0))], [(0, 25), (1, 26), (2, 3)], 0, .i64⟩,
 ⟨2, 1, 24, [.z], [], 90, .i64⟩,
 ⟨1, 4, 80, [.z, .z, .d (.v (.int .i64 0)), .z], [(0, 28), (3, 29)], 0, .i64⟩,
 ⟨1, 4, 80, [.z, .z, .d (.v (.int .i64 0)), .z], [(0, 28), (3, 29)], 0, .i64⟩,
 .bad,
 .bad,
 ⟨1, 2, 32, [.d (.v (.string ⟨#[]⟩)), .d (.v (.string ⟨#[]⟩))], [(0, 9), (1, 9)], 0, .i64⟩,
 .bad,
 .bad,
 .bad,
 .bad,
 ⟨2, 1, 24, [.z], [], 157, .i64⟩,
 ⟨2, 1, 24, [.z], [], 161, .i64⟩,
 ⟨1, 3, 56, [.z, .z, .d (.v (.int .i64 0))], [(0, 39), (1, 40), (2, 3)], 0, .i64⟩,
 ⟨1, 3, 56, [.z, .z, .d (.v (.int .i64 0))], [(0, 39), (1, 40), (2, 3)], 0, .i64⟩,
 ⟨2, 1, 24, [.z], [], 110, .i64⟩,
 ⟨1, 4, 80, [.z, .z, .d (.v (.int .i64 0)), .z], [(0, 42), (3, 43)], 0, .i64⟩,
 ⟨1, 4, 80, [.z, .z, .d (.v (.int .i64 0)), .z], [(0, 42), (3, 43)], 0, .i64⟩,
 .bad,
 .bad,
 .bad,
 .bad,
 ⟨2, 1, 24, [.z], [], 5, .i64⟩,
 .bad,
 .bad,
 ⟨2, 1, 24, [.z], [], 9, .i64⟩,
 .bad,
 .bad,
 .bad,
 .bad,
 .bad,
 .bad,
 .bad,
 .bad,
 .bad,
 .bad,
 .bad,
 .bad,
 .bad,
 .bad,
 .bad,
 .bad,
 .bad,
 .bad,
 .bad,
 .bad,
 .bad,
 .bad,
 .bad,
 .bad,
 .bad,
 .bad,
 ⟨1, 2, 24, [.d (.v (.string ⟨#[]⟩)), .d (.v (.int .i64 0))], [(0, 9), (1, 3)], 0, .i64⟩,
 ⟨1, 2, 24, [.d (.v (.string ⟨#[]⟩)), .d (.v (.int .i64 0))], [(0, 9), (1, 3)], 0, .i64⟩,
 .bad,
 .bad,
 ⟨2, 1, 24, [.z], [], 124, .i64⟩,
 ⟨1, 5, 56, [.d (.v (.int .i64 0)), .d (.v (.int .i64 0)), .d (.v (.bool false)), .d (.v (.int .i64 0)), .z], [(0, 3), (1, 3), (2, 4), (3, 3), (4, 84)], 0, .i64⟩,
 ⟨1, 5, 56, [.d (.v (.int .i64 0)), .d (.v (.int .i64 0)), .d (.v (.bool false)), .d (.v (.int .i64 0)), .z], [(0, 3), (1, 3), (2, 4), (3, 3), (4, 84)], 0, .i64⟩,
 .bad,
 ⟨2, 1, 24, [.z], [], 155, .i64⟩,
 ⟨1, 2, 40, [.d (.v (.string ⟨#[]⟩)), .z], [(0, 9), (1, 88)], 0, .i64⟩,
 ⟨1, 2, 40, [.d (.v (.string ⟨#[]⟩)), .z], [(0, 9), (1, 88)], 0, .i64⟩,
 .bad,
 .bad,
 .bad,
 .bad,
 .bad,
 .bad,
 .bad,
 .bad,
 .bad,
 .bad,
 .bad,
 .bad,
 .bad,
 .bad,
 .bad,
 .bad,
 .bad,
 ⟨2, 1, 24, [.z], [], 203, .i64⟩,
 ⟨1, 2, 40, [.d (.v (.string ⟨#[]⟩)), .z], [(0, 9), (1, 108)], 0, .i64⟩,
 ⟨1, 2, 40, [.d (.v (.string ⟨#[]⟩)), .z], [(0, 9), (1, 108)], 0, .i64⟩,
 .bad,
 .bad,
 .bad,
 .bad,
 .bad,
 .bad,
 .bad,
 .bad,
 ⟨1, 3, 40, [.z, .d (.v (.int .i64 0)), .d (.v (.int .i64 0))], [(0, 50), (1, 3), (2, 3)], 0, .i64⟩,
 ⟨1, 3, 40, [.z, .d (.v (.int .i64 0)), .d (.v (.int .i64 0))], [(0, 50), (1, 3), (2, 3)], 0, .i64⟩,
 ⟨1, 3, 32, [.d (.v (.int .i64 0)), .d (.v (.int .i64 0)), .d (.v (.string ⟨#[]⟩))], [(0, 3), (1, 3), (2, 9)], 0, .i64⟩,
 ⟨1, 3, 32, [.d (.v (.int .i64 0)), .d (.v (.int .i64 0)), .d (.v (.string ⟨#[]⟩))], [(0, 3), (1, 3), (2, 9)], 0, .i64⟩,
 ⟨1, 4, 48, [.d (.v (.string ⟨#[]⟩)), .d (.v (.int .i64 0)), .d (.v (.int .i64 0)), .d (.v (.string ⟨#[]⟩))], [(0, 9), (1, 122)], 0, .i64⟩,
 ⟨1, 4, 48, [.d (.v (.string ⟨#[]⟩)), .d (.v (.int .i64 0)), .d (.v (.int .i64 0)), .d (.v (.string ⟨#[]⟩))], [(0, 9), (1, 122)], 0, .i64⟩,
 .bad,
 .bad,
 .bad,
 .bad,
 .bad,
 .bad,
 .bad,
 .bad,
 .bad,
 .bad,
 .bad,
 ⟨2, 1, 24, [.z], [], 3, .i64⟩,
 .bad,
 .bad,
 .bad,
 .bad,
 .bad,
 .bad,
 .bad,
 .bad,
 .bad,
 .bad,
 .bad,
 .bad,
 .bad,
 .bad,
 .bad,
 .bad,
 .bad,
 ⟨1, 7, 72, [.d (.v (.int .i64 0)), .d (.v (.int .i64 0)), .d (.v (.int .i64 0)), .d (.v (.string ⟨#[]⟩)), .d (.v (.int .i64 0)), .d (.v (.int .i64 0)), .d (.v (.string ⟨#[]⟩))], [(0, 3), (1, 3), (2, 3), (3, 9), (4, 122)], 0, .i64⟩,
 ⟨1, 7, 72, [.d (.v (.int .i64 0)), .d (.v (.int .i64 0)), .d (.v (.int .i64 0)), .d (.v (.string ⟨#[]⟩)), .d (.v (.int .i64 0)), .d (.v (.int .i64 0)), .d (.v (.string ⟨#[]⟩))], [(0, 3), (1, 3), (2, 3), (3, 9), (4, 122)], 0, .i64⟩,
 .bad,
 ⟨1, 2, 24, [.d (.v (.string ⟨#[]⟩)), .d (.v (.int .i64 0))], [(0, 9), (1, 3)], 0, .i64⟩,
 .bad,
 ⟨2, 1, 24, [.z], [], 240, .i64⟩,
 ⟨1, 5, 56, [.d (.v (.int .i64 0)), .d (.v (.int .i64 0)), .d (.v (.bool false)), .d (.v (.int .i64 0)), .z], [(0, 3), (1, 3), (2, 4), (3, 3), (4, 159)], 0, .i64⟩,
 ⟨1, 5, 56, [.d (.v (.int .i64 0)), .d (.v (.int .i64 0)), .d (.v (.bool false)), .d (.v (.int .i64 0)), .z], [(0, 3), (1, 3), (2, 4), (3, 3), (4, 159)], 0, .i64⟩,
 .bad,
 .bad,
 .bad,
 .bad,
 .bad,
 .bad,
 .bad,
 .bad,
 .bad,
 .bad,
 .bad,
 .bad,
 .bad,
 .bad,
 .bad,
 .bad,
 .bad,
 .bad,
 .bad,
 .bad,
 .bad,
 .bad,
 ⟨1, 2, 48, [.z, .z], [(0, 53), (1, 88)], 0, .i64⟩,
 ⟨1, 2, 48, [.z, .z], [(0, 53), (1, 88)], 0, .i64⟩,
 .bad,
 .bad,
 .bad,
 .bad,
 .bad,
 .bad,
 .bad,
 .bad,
 .bad,
 .bad,
 .bad,
 .bad,
 .bad,
 .bad,
 .bad,
 ⟨1, 3, 32, [.d (.v (.int .i64 0)), .d (.v (.int .i64 0)), .d (.v (.string ⟨#[]⟩))], [(0, 3), (1, 3), (2, 9)], 0, .i64⟩,
 ⟨1, 7, 72, [.d (.v (.int .i64 0)), .d (.v (.int .i64 0)), .d (.v (.int .i64 0)), .d (.v (.string ⟨#[]⟩)), .d (.v (.int .i64 0)), .d (.v (.int .i64 0)), .d (.v (.string ⟨#[]⟩))], [(0, 3), (1, 3), (2, 3), (3, 9), (4, 201)], 0, .i64⟩,
 ⟨1, 7, 72, [.d (.v (.int .i64 0)), .d (.v (.int .i64 0)), .d (.v (.int .i64 0)), .d (.v (.string ⟨#[]⟩)), .d (.v (.int .i64 0)), .d (.v (.int .i64 0)), .d (.v (.string ⟨#[]⟩))], [(0, 3), (1, 3), (2, 3), (3, 9), (4, 201)], 0, .i64⟩,
 .bad,
 .bad,
 .bad,
 .bad,
 .bad,
 .bad,
 .bad,
 .bad,
 .bad,
 .bad,
 .bad,
 .bad,
 .bad,
 .bad,
 .bad,
 .bad,
 .bad,
 .bad,
 .bad,
 .bad,
 .bad,
 .bad,
 .bad,
 .bad,
 .bad,
 .bad,
 ⟨3, 1, 8, [.d (.v (.int .i64 0))], [], 0, .i64⟩,
 .bad,
 .bad,
 .bad,
 .bad,
 .bad,
 .bad,
 .bad,
 .bad,
 ⟨1, 4, 48, [.d (.v (.string ⟨#[]⟩)), .d (.v (.int .i64 0)), .d (.v (.int .i64 0)), .d (.v (.string ⟨#[]⟩))], [(0, 9), (1, 201)], 0, .i64⟩,
 ⟨1, 4, 48, [.d (.v (.string ⟨#[]⟩)), .d (.v (.int .i64 0)), .d (.v (.int .i64 0)), .d (.v (.string ⟨#[]⟩))], [(0, 9), (1, 201)], 0, .i64⟩,
 .bad,
 .bad,
 .bad,
 .bad,
 .bad,
 .bad,
 .bad,
 .bad,
 .bad,
 .bad,
 .bad,
 .bad,
 .bad,
 .bad,
 .bad,
 .bad,
 .bad,
 .bad,
 .bad,
 .bad,
 .bad,
 .bad,
 .bad,
 .bad,
 .bad,
 ⟨2, 1, 24, [.z], [], 4, .i64⟩,
 .bad,
 .bad,
 .bad,
 .bad,
 .bad,
 .bad,
 .bad,
 ⟨2, 1, 24, [.z], [], 276, .i64⟩,
 ⟨1, 2, 16, [.d (.v (.int .i64 0)), .d (.v (.int .i64 0))], [(0, 3), (1, 3)], 0, .i64⟩,
 ⟨1, 2, 16, [.d (.v (.int .i64 0)), .d (.v (.int .i64 0))], [(0, 3), (1, 3)], 0, .i64⟩,
 .bad,
 .bad,
 .bad,
 ⟨1, 2, 2, [.d (.v (.int .u8 0)), .d (.v (.int .u8 0))], [(0, 5), (1, 5)], 0, .i64⟩,
 ⟨1, 2, 2, [.d (.v (.int .u8 0)), .d (.v (.int .u8 0))], [(0, 5), (1, 5)], 0, .i64⟩,
 .bad,
 .bad,
 .bad,
 .bad,
 .bad,
 ⟨1, 1, 16, [.d (.v (.string ⟨#[]⟩))], [(0, 9)], 0, .i64⟩,
 ⟨1, 1, 16, [.d (.v (.string ⟨#[]⟩))], [(0, 9)], 0, .i64⟩,
 .bad,
 .bad,
 .bad,
 .bad,
 .bad,
 .bad,
 .bad,
 .bad,
 .bad,
 .bad,
 .bad,
 .bad,
 .bad,
 .bad,
 .bad,
 .bad,
 .bad,
 .bad,
 .bad,
 ⟨3, 1, 8, [.d (.v (.int .i64 0))], [], 0, .i64⟩,
 .bad,
 .bad,
 .bad,
 .bad,
 .bad,
 .bad,
 .bad,
 .bad,
 .bad,
 .bad,
 .bad,
 .bad,
 .bad,
 .bad,
 .bad,
 .bad,
 .bad,
 .bad,
 .bad,
 .bad,
 .bad,
 .bad,
 .bad,
 ⟨3, 1, 1, [.d (.v (.int .u8 0))], [], 0, .u8⟩,
 ⟨3, 1, 1, [.d (.v (.int .u8 0))], [], 0, .u8⟩,
 .bad,
 .bad,
 .bad,
 .bad,
 .bad,
 .bad,
 .bad,
 .bad,
 .bad,
 .bad]
noncomputable def tt : Nat → Ty := fun t => ttl.getD t .bad
theorem zY : TyOK Tryz.prog tt := TyOK.of_list (by kernel_rfl)
theorem tts : tt 2 = ⟨3, 1, 8, [.d (.v (.int .i64 0))], [], 0, .i64⟩ ∧ tt 3 = ⟨3, 1, 8, [.d (.v (.int .i64 0))], [], 0, .i64⟩ ∧ tt 4 = ⟨4, 1, 1, [.d (.v (.bool false))], [], 0, .i64⟩ ∧ tt 5 = ⟨3, 1, 1, [.d (.v (.int .u8 0))], [], 0, .u8⟩ ∧ tt 6 = ⟨3, 1, 1, [.d (.v (.int .u8 0))], [], 0, .u8⟩ ∧ tt 7 = ⟨1, 4, 24, [.d (.v (.int .i64 0)), .d (.v (.int .i64 0)), .d (.v (.bool false)), .d (.v (.int .u8 0))], [(0, 2), (1, 3), (2, 4), (3, 6)], 0, .i64⟩ ∧ tt 8 = ⟨1, 4, 24, [.d (.v (.int .i64 0)), .d (.v (.int .i64 0)), .d (.v (.bool false)), .d (.v (.int .u8 0))], [(0, 2), (1, 3), (2, 4), (3, 6)], 0, .i64⟩ ∧ tt 9 = ⟨5, 1, 16, [.d (.v (.string ⟨#[]⟩))], [], 0, .i64⟩ ∧ tt 10 = ⟨5, 1, 16, [.d (.v (.string ⟨#[]⟩))], [], 0, .i64⟩ ∧ tt 11 = ⟨5, 1, 16, [.d (.v (.string ⟨#[]⟩))], [], 0, .i64⟩ ∧ tt 22 = ⟨1, 2, 32, [.d (.v (.string ⟨#[]⟩)), .d (.v (.string ⟨#[]⟩))], [(0, 9), (1, 9)], 0, .i64⟩ ∧ tt 23 = ⟨1, 2, 32, [.d (.v (.string ⟨#[]⟩)), .d (.v (.string ⟨#[]⟩))], [(0, 9), (1, 9)], 0, .i64⟩ ∧ tt 25 = ⟨2, 1, 24, [.z], [], 81, .i64⟩ ∧ tt 26 = ⟨2, 1, 24, [.z], [], 86, .i64⟩ ∧ tt 27 = ⟨1, 3, 56, [.z, .z, .d (.v (.int .i64 0))], [(0, 25), (1, 26), (2, 3)], 0, .i64⟩ ∧ tt 28 = ⟨1, 3, 56, [.z, .z, .d (.v (.int .i64 0))], [(0, 25), (1, 26), (2, 3)], 0, .i64⟩ ∧ tt 29 = ⟨2, 1, 24, [.z], [], 90, .i64⟩ ∧ tt 30 = ⟨1, 4, 80, [.z, .z, .d (.v (.int .i64 0)), .z], [(0, 28), (3, 29)], 0, .i64⟩ ∧ tt 31 = ⟨1, 4, 80, [.z, .z, .d (.v (.int .i64 0)), .z], [(0, 28), (3, 29)], 0, .i64⟩ ∧ tt 34 = ⟨1, 2, 32, [.d (.v (.string ⟨#[]⟩)), .d (.v (.string ⟨#[]⟩))], [(0, 9), (1, 9)], 0, .i64⟩ ∧ tt 39 = ⟨2, 1, 24, [.z], [], 157, .i64⟩ ∧ tt 40 = ⟨2, 1, 24, [.z], [], 161, .i64⟩ ∧ tt 41 = ⟨1, 3, 56, [.z, .z, .d (.v (.int .i64 0))], [(0, 39), (1, 40), (2, 3)], 0, .i64⟩ ∧ tt 42 = ⟨1, 3, 56, [.z, .z, .d (.v (.int .i64 0))], [(0, 39), (1, 40), (2, 3)], 0, .i64⟩ ∧ tt 43 = ⟨2, 1, 24, [.z], [], 110, .i64⟩ ∧ tt 44 = ⟨1, 4, 80, [.z, .z, .d (.v (.int .i64 0)), .z], [(0, 42), (3, 43)], 0, .i64⟩ ∧ tt 45 = ⟨1, 4, 80, [.z, .z, .d (.v (.int .i64 0)), .z], [(0, 42), (3, 43)], 0, .i64⟩ ∧ tt 50 = ⟨2, 1, 24, [.z], [], 5, .i64⟩ ∧ tt 53 = ⟨2, 1, 24, [.z], [], 9, .i64⟩ ∧ tt 80 = ⟨1, 2, 24, [.d (.v (.string ⟨#[]⟩)), .d (.v (.int .i64 0))], [(0, 9), (1, 3)], 0, .i64⟩ ∧ tt 81 = ⟨1, 2, 24, [.d (.v (.string ⟨#[]⟩)), .d (.v (.int .i64 0))], [(0, 9), (1, 3)], 0, .i64⟩ ∧ tt 84 = ⟨2, 1, 24, [.z], [], 124, .i64⟩ ∧ tt 85 = ⟨1, 5, 56, [.d (.v (.int .i64 0)), .d (.v (.int .i64 0)), .d (.v (.bool false)), .d (.v (.int .i64 0)), .z], [(0, 3), (1, 3), (2, 4), (3, 3), (4, 84)], 0, .i64⟩ ∧ tt 86 = ⟨1, 5, 56, [.d (.v (.int .i64 0)), .d (.v (.int .i64 0)), .d (.v (.bool false)), .d (.v (.int .i64 0)), .z], [(0, 3), (1, 3), (2, 4), (3, 3), (4, 84)], 0, .i64⟩ ∧ tt 88 = ⟨2, 1, 24, [.z], [], 155, .i64⟩ ∧ tt 89 = ⟨1, 2, 40, [.d (.v (.string ⟨#[]⟩)), .z], [(0, 9), (1, 88)], 0, .i64⟩ ∧ tt 90 = ⟨1, 2, 40, [.d (.v (.string ⟨#[]⟩)), .z], [(0, 9), (1, 88)], 0, .i64⟩ ∧ tt 108 = ⟨2, 1, 24, [.z], [], 203, .i64⟩ ∧ tt 109 = ⟨1, 2, 40, [.d (.v (.string ⟨#[]⟩)), .z], [(0, 9), (1, 108)], 0, .i64⟩ ∧ tt 110 = ⟨1, 2, 40, [.d (.v (.string ⟨#[]⟩)), .z], [(0, 9), (1, 108)], 0, .i64⟩ ∧ tt 119 = ⟨1, 3, 40, [.z, .d (.v (.int .i64 0)), .d (.v (.int .i64 0))], [(0, 50), (1, 3), (2, 3)], 0, .i64⟩ ∧ tt 120 = ⟨1, 3, 40, [.z, .d (.v (.int .i64 0)), .d (.v (.int .i64 0))], [(0, 50), (1, 3), (2, 3)], 0, .i64⟩ ∧ tt 121 = ⟨1, 3, 32, [.d (.v (.int .i64 0)), .d (.v (.int .i64 0)), .d (.v (.string ⟨#[]⟩))], [(0, 3), (1, 3), (2, 9)], 0, .i64⟩ ∧ tt 122 = ⟨1, 3, 32, [.d (.v (.int .i64 0)), .d (.v (.int .i64 0)), .d (.v (.string ⟨#[]⟩))], [(0, 3), (1, 3), (2, 9)], 0, .i64⟩ ∧ tt 123 = ⟨1, 4, 48, [.d (.v (.string ⟨#[]⟩)), .d (.v (.int .i64 0)), .d (.v (.int .i64 0)), .d (.v (.string ⟨#[]⟩))], [(0, 9), (1, 122)], 0, .i64⟩ ∧ tt 124 = ⟨1, 4, 48, [.d (.v (.string ⟨#[]⟩)), .d (.v (.int .i64 0)), .d (.v (.int .i64 0)), .d (.v (.string ⟨#[]⟩))], [(0, 9), (1, 122)], 0, .i64⟩ ∧ tt 136 = ⟨2, 1, 24, [.z], [], 3, .i64⟩ ∧ tt 154 = ⟨1, 7, 72, [.d (.v (.int .i64 0)), .d (.v (.int .i64 0)), .d (.v (.int .i64 0)), .d (.v (.string ⟨#[]⟩)), .d (.v (.int .i64 0)), .d (.v (.int .i64 0)), .d (.v (.string ⟨#[]⟩))], [(0, 3), (1, 3), (2, 3), (3, 9), (4, 122)], 0, .i64⟩ ∧ tt 155 = ⟨1, 7, 72, [.d (.v (.int .i64 0)), .d (.v (.int .i64 0)), .d (.v (.int .i64 0)), .d (.v (.string ⟨#[]⟩)), .d (.v (.int .i64 0)), .d (.v (.int .i64 0)), .d (.v (.string ⟨#[]⟩))], [(0, 3), (1, 3), (2, 3), (3, 9), (4, 122)], 0, .i64⟩ ∧ tt 157 = ⟨1, 2, 24, [.d (.v (.string ⟨#[]⟩)), .d (.v (.int .i64 0))], [(0, 9), (1, 3)], 0, .i64⟩ ∧ tt 159 = ⟨2, 1, 24, [.z], [], 240, .i64⟩ ∧ tt 160 = ⟨1, 5, 56, [.d (.v (.int .i64 0)), .d (.v (.int .i64 0)), .d (.v (.bool false)), .d (.v (.int .i64 0)), .z], [(0, 3), (1, 3), (2, 4), (3, 3), (4, 159)], 0, .i64⟩ ∧ tt 161 = ⟨1, 5, 56, [.d (.v (.int .i64 0)), .d (.v (.int .i64 0)), .d (.v (.bool false)), .d (.v (.int .i64 0)), .z], [(0, 3), (1, 3), (2, 4), (3, 3), (4, 159)], 0, .i64⟩ ∧ tt 184 = ⟨1, 2, 48, [.z, .z], [(0, 53), (1, 88)], 0, .i64⟩ ∧ tt 185 = ⟨1, 2, 48, [.z, .z], [(0, 53), (1, 88)], 0, .i64⟩ ∧ tt 201 = ⟨1, 3, 32, [.d (.v (.int .i64 0)), .d (.v (.int .i64 0)), .d (.v (.string ⟨#[]⟩))], [(0, 3), (1, 3), (2, 9)], 0, .i64⟩ ∧ tt 202 = ⟨1, 7, 72, [.d (.v (.int .i64 0)), .d (.v (.int .i64 0)), .d (.v (.int .i64 0)), .d (.v (.string ⟨#[]⟩)), .d (.v (.int .i64 0)), .d (.v (.int .i64 0)), .d (.v (.string ⟨#[]⟩))], [(0, 3), (1, 3), (2, 3), (3, 9), (4, 201)], 0, .i64⟩ ∧ tt 203 = ⟨1, 7, 72, [.d (.v (.int .i64 0)), .d (.v (.int .i64 0)), .d (.v (.int .i64 0)), .d (.v (.string ⟨#[]⟩)), .d (.v (.int .i64 0)), .d (.v (.int .i64 0)), .d (.v (.string ⟨#[]⟩))], [(0, 3), (1, 3), (2, 3), (3, 9), (4, 201)], 0, .i64⟩ ∧ tt 230 = ⟨3, 1, 8, [.d (.v (.int .i64 0))], [], 0, .i64⟩ ∧ tt 239 = ⟨1, 4, 48, [.d (.v (.string ⟨#[]⟩)), .d (.v (.int .i64 0)), .d (.v (.int .i64 0)), .d (.v (.string ⟨#[]⟩))], [(0, 9), (1, 201)], 0, .i64⟩ ∧ tt 240 = ⟨1, 4, 48, [.d (.v (.string ⟨#[]⟩)), .d (.v (.int .i64 0)), .d (.v (.int .i64 0)), .d (.v (.string ⟨#[]⟩))], [(0, 9), (1, 201)], 0, .i64⟩ ∧ tt 266 = ⟨2, 1, 24, [.z], [], 4, .i64⟩ ∧ tt 274 = ⟨2, 1, 24, [.z], [], 276, .i64⟩ ∧ tt 275 = ⟨1, 2, 16, [.d (.v (.int .i64 0)), .d (.v (.int .i64 0))], [(0, 3), (1, 3)], 0, .i64⟩ ∧ tt 276 = ⟨1, 2, 16, [.d (.v (.int .i64 0)), .d (.v (.int .i64 0))], [(0, 3), (1, 3)], 0, .i64⟩ ∧ tt 280 = ⟨1, 2, 2, [.d (.v (.int .u8 0)), .d (.v (.int .u8 0))], [(0, 5), (1, 5)], 0, .i64⟩ ∧ tt 281 = ⟨1, 2, 2, [.d (.v (.int .u8 0)), .d (.v (.int .u8 0))], [(0, 5), (1, 5)], 0, .i64⟩ ∧ tt 287 = ⟨1, 1, 16, [.d (.v (.string ⟨#[]⟩))], [(0, 9)], 0, .i64⟩ ∧ tt 288 = ⟨1, 1, 16, [.d (.v (.string ⟨#[]⟩))], [(0, 9)], 0, .i64⟩ ∧ tt 308 = ⟨3, 1, 8, [.d (.v (.int .i64 0))], [], 0, .i64⟩ ∧ tt 332 = ⟨3, 1, 1, [.d (.v (.int .u8 0))], [], 0, .u8⟩ ∧ tt 333 = ⟨3, 1, 1, [.d (.v (.int .u8 0))], [], 0, .u8⟩ :=
 ⟨rfl, rfl, rfl, rfl, rfl, rfl, rfl, rfl, rfl, rfl, rfl, rfl, rfl, rfl, rfl, rfl, rfl, rfl, rfl, rfl, rfl, rfl, rfl, rfl, rfl, rfl, rfl, rfl, rfl, rfl, rfl, rfl, rfl, rfl, rfl, rfl, rfl, rfl, rfl, rfl, rfl, rfl, rfl, rfl, rfl, rfl, rfl, rfl, rfl, rfl, rfl, rfl, rfl, rfl, rfl, rfl, rfl, rfl, rfl, rfl, rfl, rfl, rfl, rfl, rfl, rfl, rfl, rfl, rfl, rfl, rfl, rfl⟩
def eqk : Nat → List Nat := fun t => if t = 23 then [3, 3] else if t = 34 then [3, 3] else if t = 81 then [3, 1] else if t = 122 then [1, 1, 3] else if t = 124 then [3, 1, 1, 3] else if t = 155 then [1, 1, 1, 3, 1, 1, 3] else if t = 157 then [3, 1] else if t = 201 then [1, 1, 3] else if t = 203 then [1, 1, 1, 3, 1, 1, 3] else if t = 240 then [3, 1, 1, 3] else []
theorem dG {v : Value} (h : iD v = 1) : ∃ x : Int, v = .int .i64 x := by
 cases v with
 | int k n => cases k <;> simp_all [iD]
 | _ => simp_all [iD]
theorem eG {v : Value} (h : iD v = 3) : ∃ x : ByteArray, v = .string x := by
 cases v with
 | int k n => cases k <;> simp_all [iD]
 | _ => simp_all [iD]
theorem a1e {xs : List Value} (h : xs.map iD = [3, 3]) : ∃ (x0 : ByteArray) (x1 : ByteArray), xs = [.string x0, .string x1] := by
 obtain ⟨v0, xs, rfl⟩ : ∃ v l, xs = v :: l := by cases xs with
  | nil => simp at h
  | cons v l => exact ⟨v, l, rfl⟩
 simp only [List.map_cons, List.cons.injEq] at h
 obtain ⟨h0, h⟩ := h
 obtain ⟨v1, xs, rfl⟩ : ∃ v l, xs = v :: l := by cases xs with
  | nil => simp at h
  | cons v l => exact ⟨v, l, rfl⟩
 simp only [List.map_cons, List.cons.injEq] at h
 obtain ⟨h1, h⟩ := h
 have : xs = [] := by simpa using h
 subst this
 obtain ⟨x0, rfl⟩ := eG h0
 obtain ⟨x1, rfl⟩ := eG h1
 exact ⟨x0, x1, rfl⟩
theorem a1f {xs : List Value} (h : xs.map iD = [3, 3]) : ∃ (x0 : ByteArray) (x1 : ByteArray), xs = [.string x0, .string x1] := by
 obtain ⟨v0, xs, rfl⟩ : ∃ v l, xs = v :: l := by cases xs with
  | nil => simp at h
  | cons v l => exact ⟨v, l, rfl⟩
 simp only [List.map_cons, List.cons.injEq] at h
 obtain ⟨h0, h⟩ := h
 obtain ⟨v1, xs, rfl⟩ : ∃ v l, xs = v :: l := by cases xs with
  | nil => simp at h
  | cons v l => exact ⟨v, l, rfl⟩
 simp only [List.map_cons, List.cons.injEq] at h
 obtain ⟨h1, h⟩ := h
 have : xs = [] := by simpa using h
 subst this
 obtain ⟨x0, rfl⟩ := eG h0
 obtain ⟨x1, rfl⟩ := eG h1
 exact ⟨x0, x1, rfl⟩
theorem a1g {xs : List Value} (h : xs.map iD = [3, 1]) : ∃ (x0 : ByteArray) (x1 : Int), xs = [.string x0, .int .i64 x1] := by
 obtain ⟨v0, xs, rfl⟩ : ∃ v l, xs = v :: l := by cases xs with
  | nil => simp at h
  | cons v l => exact ⟨v, l, rfl⟩
 simp only [List.map_cons, List.cons.injEq] at h
 obtain ⟨h0, h⟩ := h
 obtain ⟨v1, xs, rfl⟩ : ∃ v l, xs = v :: l := by cases xs with
  | nil => simp at h
  | cons v l => exact ⟨v, l, rfl⟩
 simp only [List.map_cons, List.cons.injEq] at h
 obtain ⟨h1, h⟩ := h
 have : xs = [] := by simpa using h
 subst this
 obtain ⟨x0, rfl⟩ := eG h0
 obtain ⟨x1, rfl⟩ := dG h1
 exact ⟨x0, x1, rfl⟩
theorem xO {xs : List Value} (h : xs.map iD = [1, 1, 3]) : ∃ (x0 : Int) (x1 : Int) (x2 : ByteArray), xs = [.int .i64 x0, .int .i64 x1, .string x2] := by
 obtain ⟨v0, xs, rfl⟩ : ∃ v l, xs = v :: l := by cases xs with
  | nil => simp at h
  | cons v l => exact ⟨v, l, rfl⟩
 simp only [List.map_cons, List.cons.injEq] at h
 obtain ⟨h0, h⟩ := h
 obtain ⟨v1, xs, rfl⟩ : ∃ v l, xs = v :: l := by cases xs with
  | nil => simp at h
  | cons v l => exact ⟨v, l, rfl⟩
 simp only [List.map_cons, List.cons.injEq] at h
 obtain ⟨h1, h⟩ := h
 obtain ⟨v2, xs, rfl⟩ : ∃ v l, xs = v :: l := by cases xs with
  | nil => simp at h
  | cons v l => exact ⟨v, l, rfl⟩
 simp only [List.map_cons, List.cons.injEq] at h
 obtain ⟨h2, h⟩ := h
 have : xs = [] := by simpa using h
 subst this
 obtain ⟨x0, rfl⟩ := dG h0
 obtain ⟨x1, rfl⟩ := dG h1
 obtain ⟨x2, rfl⟩ := eG h2
 exact ⟨x0, x1, x2, rfl⟩
theorem xP {xs : List Value} (h : xs.map iD = [3, 1, 1, 3]) : ∃ (x0 : ByteArray) (x1 : Int) (x2 : Int) (x3 : ByteArray), xs = [.string x0, .int .i64 x1, .int .i64 x2, .string x3] := by
 obtain ⟨v0, xs, rfl⟩ : ∃ v l, xs = v :: l := by cases xs with
  | nil => simp at h
  | cons v l => exact ⟨v, l, rfl⟩
 simp only [List.map_cons, List.cons.injEq] at h
 obtain ⟨h0, h⟩ := h
 obtain ⟨v1, xs, rfl⟩ : ∃ v l, xs = v :: l := by cases xs with
  | nil => simp at h
  | cons v l => exact ⟨v, l, rfl⟩
 simp only [List.map_cons, List.cons.injEq] at h
 obtain ⟨h1, h⟩ := h
 obtain ⟨v2, xs, rfl⟩ : ∃ v l, xs = v :: l := by cases xs with
  | nil => simp at h
  | cons v l => exact ⟨v, l, rfl⟩
 simp only [List.map_cons, List.cons.injEq] at h
 obtain ⟨h2, h⟩ := h
 obtain ⟨v3, xs, rfl⟩ : ∃ v l, xs = v :: l := by cases xs with
  | nil => simp at h
  | cons v l => exact ⟨v, l, rfl⟩
 simp only [List.map_cons, List.cons.injEq] at h
 obtain ⟨h3, h⟩ := h
 have : xs = [] := by simpa using h
 subst this
 obtain ⟨x0, rfl⟩ := eG h0
 obtain ⟨x1, rfl⟩ := dG h1
 obtain ⟨x2, rfl⟩ := dG h2
 obtain ⟨x3, rfl⟩ := eG h3
 exact ⟨x0, x1, x2, x3, rfl⟩
theorem xQ {xs : List Value} (h : xs.map iD = [1, 1, 1, 3, 1, 1, 3]) : ∃ (x0 : Int) (x1 : Int) (x2 : Int) (x3 : ByteArray) (x4 : Int) (x5 : Int) (x6 : ByteArray), xs = [.int .i64 x0, .int .i64 x1, .int .i64 x2, .string x3, .int .i64 x4, .int .i64 x5, .string x6] := by
 obtain ⟨v0, xs, rfl⟩ : ∃ v l, xs = v :: l := by cases xs with
  | nil => simp at h
  | cons v l => exact ⟨v, l, rfl⟩
 simp only [List.map_cons, List.cons.injEq] at h
 obtain ⟨h0, h⟩ := h
 obtain ⟨v1, xs, rfl⟩ : ∃ v l, xs = v :: l := by cases xs with
  | nil => simp at h
  | cons v l => exact ⟨v, l, rfl⟩
 simp only [List.map_cons, List.cons.injEq] at h
 obtain ⟨h1, h⟩ := h
 obtain ⟨v2, xs, rfl⟩ : ∃ v l, xs = v :: l := by cases xs with
  | nil => simp at h
  | cons v l => exact ⟨v, l, rfl⟩
 simp only [List.map_cons, List.cons.injEq] at h
 obtain ⟨h2, h⟩ := h
 obtain ⟨v3, xs, rfl⟩ : ∃ v l, xs = v :: l := by cases xs with
  | nil => simp at h
  | cons v l => exact ⟨v, l, rfl⟩
 simp only [List.map_cons, List.cons.injEq] at h
 obtain ⟨h3, h⟩ := h
 obtain ⟨v4, xs, rfl⟩ : ∃ v l, xs = v :: l := by cases xs with
  | nil => simp at h
  | cons v l => exact ⟨v, l, rfl⟩
 simp only [List.map_cons, List.cons.injEq] at h
 obtain ⟨h4, h⟩ := h
 obtain ⟨v5, xs, rfl⟩ : ∃ v l, xs = v :: l := by cases xs with
  | nil => simp at h
  | cons v l => exact ⟨v, l, rfl⟩
 simp only [List.map_cons, List.cons.injEq] at h
 obtain ⟨h5, h⟩ := h
 obtain ⟨v6, xs, rfl⟩ : ∃ v l, xs = v :: l := by cases xs with
  | nil => simp at h
  | cons v l => exact ⟨v, l, rfl⟩
 simp only [List.map_cons, List.cons.injEq] at h
 obtain ⟨h6, h⟩ := h
 have : xs = [] := by simpa using h
 subst this
 obtain ⟨x0, rfl⟩ := dG h0
 obtain ⟨x1, rfl⟩ := dG h1
 obtain ⟨x2, rfl⟩ := dG h2
 obtain ⟨x3, rfl⟩ := eG h3
 obtain ⟨x4, rfl⟩ := dG h4
 obtain ⟨x5, rfl⟩ := dG h5
 obtain ⟨x6, rfl⟩ := eG h6
 exact ⟨x0, x1, x2, x3, x4, x5, x6, rfl⟩
theorem xR {xs : List Value} (h : xs.map iD = [3, 1]) : ∃ (x0 : ByteArray) (x1 : Int), xs = [.string x0, .int .i64 x1] := by
 obtain ⟨v0, xs, rfl⟩ : ∃ v l, xs = v :: l := by cases xs with
  | nil => simp at h
  | cons v l => exact ⟨v, l, rfl⟩
 simp only [List.map_cons, List.cons.injEq] at h
 obtain ⟨h0, h⟩ := h
 obtain ⟨v1, xs, rfl⟩ : ∃ v l, xs = v :: l := by cases xs with
  | nil => simp at h
  | cons v l => exact ⟨v, l, rfl⟩
 simp only [List.map_cons, List.cons.injEq] at h
 obtain ⟨h1, h⟩ := h
 have : xs = [] := by simpa using h
 subst this
 obtain ⟨x0, rfl⟩ := eG h0
 obtain ⟨x1, rfl⟩ := dG h1
 exact ⟨x0, x1, rfl⟩
theorem xS {xs : List Value} (h : xs.map iD = [1, 1, 3]) : ∃ (x0 : Int) (x1 : Int) (x2 : ByteArray), xs = [.int .i64 x0, .int .i64 x1, .string x2] := by
 obtain ⟨v0, xs, rfl⟩ : ∃ v l, xs = v :: l := by cases xs with
  | nil => simp at h
  | cons v l => exact ⟨v, l, rfl⟩
 simp only [List.map_cons, List.cons.injEq] at h
 obtain ⟨h0, h⟩ := h
 obtain ⟨v1, xs, rfl⟩ : ∃ v l, xs = v :: l := by cases xs with
  | nil => simp at h
  | cons v l => exact ⟨v, l, rfl⟩
 simp only [List.map_cons, List.cons.injEq] at h
 obtain ⟨h1, h⟩ := h
 obtain ⟨v2, xs, rfl⟩ : ∃ v l, xs = v :: l := by cases xs with
  | nil => simp at h
  | cons v l => exact ⟨v, l, rfl⟩
 simp only [List.map_cons, List.cons.injEq] at h
 obtain ⟨h2, h⟩ := h
 have : xs = [] := by simpa using h
 subst this
 obtain ⟨x0, rfl⟩ := dG h0
 obtain ⟨x1, rfl⟩ := dG h1
 obtain ⟨x2, rfl⟩ := eG h2
 exact ⟨x0, x1, x2, rfl⟩
theorem xU {xs : List Value} (h : xs.map iD = [1, 1, 1, 3, 1, 1, 3]) : ∃ (x0 : Int) (x1 : Int) (x2 : Int) (x3 : ByteArray) (x4 : Int) (x5 : Int) (x6 : ByteArray), xs = [.int .i64 x0, .int .i64 x1, .int .i64 x2, .string x3, .int .i64 x4, .int .i64 x5, .string x6] := by
 obtain ⟨v0, xs, rfl⟩ : ∃ v l, xs = v :: l := by cases xs with
  | nil => simp at h
  | cons v l => exact ⟨v, l, rfl⟩
 simp only [List.map_cons, List.cons.injEq] at h
 obtain ⟨h0, h⟩ := h
 obtain ⟨v1, xs, rfl⟩ : ∃ v l, xs = v :: l := by cases xs with
  | nil => simp at h
  | cons v l => exact ⟨v, l, rfl⟩
 simp only [List.map_cons, List.cons.injEq] at h
 obtain ⟨h1, h⟩ := h
 obtain ⟨v2, xs, rfl⟩ : ∃ v l, xs = v :: l := by cases xs with
  | nil => simp at h
  | cons v l => exact ⟨v, l, rfl⟩
 simp only [List.map_cons, List.cons.injEq] at h
 obtain ⟨h2, h⟩ := h
 obtain ⟨v3, xs, rfl⟩ : ∃ v l, xs = v :: l := by cases xs with
  | nil => simp at h
  | cons v l => exact ⟨v, l, rfl⟩
 simp only [List.map_cons, List.cons.injEq] at h
 obtain ⟨h3, h⟩ := h
 obtain ⟨v4, xs, rfl⟩ : ∃ v l, xs = v :: l := by cases xs with
  | nil => simp at h
  | cons v l => exact ⟨v, l, rfl⟩
 simp only [List.map_cons, List.cons.injEq] at h
 obtain ⟨h4, h⟩ := h
 obtain ⟨v5, xs, rfl⟩ : ∃ v l, xs = v :: l := by cases xs with
  | nil => simp at h
  | cons v l => exact ⟨v, l, rfl⟩
 simp only [List.map_cons, List.cons.injEq] at h
 obtain ⟨h5, h⟩ := h
 obtain ⟨v6, xs, rfl⟩ : ∃ v l, xs = v :: l := by cases xs with
  | nil => simp at h
  | cons v l => exact ⟨v, l, rfl⟩
 simp only [List.map_cons, List.cons.injEq] at h
 obtain ⟨h6, h⟩ := h
 have : xs = [] := by simpa using h
 subst this
 obtain ⟨x0, rfl⟩ := dG h0
 obtain ⟨x1, rfl⟩ := dG h1
 obtain ⟨x2, rfl⟩ := dG h2
 obtain ⟨x3, rfl⟩ := eG h3
 obtain ⟨x4, rfl⟩ := dG h4
 obtain ⟨x5, rfl⟩ := dG h5
 obtain ⟨x6, rfl⟩ := eG h6
 exact ⟨x0, x1, x2, x3, x4, x5, x6, rfl⟩
theorem xV {xs : List Value} (h : xs.map iD = [3, 1, 1, 3]) : ∃ (x0 : ByteArray) (x1 : Int) (x2 : Int) (x3 : ByteArray), xs = [.string x0, .int .i64 x1, .int .i64 x2, .string x3] := by
 obtain ⟨v0, xs, rfl⟩ : ∃ v l, xs = v :: l := by cases xs with
  | nil => simp at h
  | cons v l => exact ⟨v, l, rfl⟩
 simp only [List.map_cons, List.cons.injEq] at h
 obtain ⟨h0, h⟩ := h
 obtain ⟨v1, xs, rfl⟩ : ∃ v l, xs = v :: l := by cases xs with
  | nil => simp at h
  | cons v l => exact ⟨v, l, rfl⟩
 simp only [List.map_cons, List.cons.injEq] at h
 obtain ⟨h1, h⟩ := h
 obtain ⟨v2, xs, rfl⟩ : ∃ v l, xs = v :: l := by cases xs with
  | nil => simp at h
  | cons v l => exact ⟨v, l, rfl⟩
 simp only [List.map_cons, List.cons.injEq] at h
 obtain ⟨h2, h⟩ := h
 obtain ⟨v3, xs, rfl⟩ : ∃ v l, xs = v :: l := by cases xs with
  | nil => simp at h
  | cons v l => exact ⟨v, l, rfl⟩
 simp only [List.map_cons, List.cons.injEq] at h
 obtain ⟨h3, h⟩ := h
 have : xs = [] := by simpa using h
 subst this
 obtain ⟨x0, rfl⟩ := eG h0
 obtain ⟨x1, rfl⟩ := dG h1
 obtain ⟨x2, rfl⟩ := dG h2
 obtain ⟨x3, rfl⟩ := eG h3
 exact ⟨x0, x1, x2, x3, rfl⟩
set_option maxHeartbeats 1000000 in
theorem b6s : EqT Tryz.prog 23 [3, 3] := by
 refine ⟨by decide, fun w xs ys hx hy => ?_, fun w xs ys hx hy => ?_, fun op x y xs ys w => run_eqGuard_agg w op 23 x y xs ys Tryz.eqGuardType23⟩
 ·obtain ⟨x0, x1, hx⟩ := a1e hx
  obtain ⟨y0, y1, hy⟩ := a1e hy
  subst hx; subst hy
  simp [go_sem, lT, eqV, eQ, bR]
  (repeat' split) <;> simp_all
 ·obtain ⟨x0, x1, hx⟩ := a1e hx
  obtain ⟨y0, y1, hy⟩ := a1e hy
  subst hx; subst hy
  simp [go_sem, lT, eqV, eQ, bR]
  (repeat' split) <;> simp_all
set_option maxHeartbeats 1000000 in
theorem b6t : EqT Tryz.prog 34 [3, 3] := by
 refine ⟨by decide, fun w xs ys hx hy => ?_, fun w xs ys hx hy => ?_, fun op x y xs ys w => run_eqGuard_agg w op 34 x y xs ys Tryz.eqGuardType34⟩
 ·obtain ⟨x0, x1, hx⟩ := a1f hx
  obtain ⟨y0, y1, hy⟩ := a1f hy
  subst hx; subst hy
  simp [go_sem, lT, eqV, eQ, bR]
  (repeat' split) <;> simp_all
 ·obtain ⟨x0, x1, hx⟩ := a1f hx
  obtain ⟨y0, y1, hy⟩ := a1f hy
  subst hx; subst hy
  simp [go_sem, lT, eqV, eQ, bR]
  (repeat' split) <;> simp_all
set_option maxHeartbeats 1000000 in
theorem b6u : EqT Tryz.prog 81 [3, 1] := by
 refine ⟨by decide, fun w xs ys hx hy => ?_, fun w xs ys hx hy => ?_, fun op x y xs ys w => run_eqGuard_agg w op 81 x y xs ys Tryz.eqGuardType81⟩
 ·obtain ⟨x0, x1, hx⟩ := a1g hx
  obtain ⟨y0, y1, hy⟩ := a1g hy
  subst hx; subst hy
  simp [go_sem, lT, eqV, eQ, bR]
  (repeat' split) <;> simp_all
 ·obtain ⟨x0, x1, hx⟩ := a1g hx
  obtain ⟨y0, y1, hy⟩ := a1g hy
  subst hx; subst hy
  simp [go_sem, lT, eqV, eQ, bR]
  (repeat' split) <;> simp_all
set_option maxHeartbeats 1000000 in
theorem b4N : EqT Tryz.prog 122 [1, 1, 3] := by
 refine ⟨by decide, fun w xs ys hx hy => ?_, fun w xs ys hx hy => ?_, fun op x y xs ys w => run_eqGuard_agg w op 122 x y xs ys Tryz.eqGuardType122⟩
 ·obtain ⟨x0, x1, x2, hx⟩ := xO hx
  obtain ⟨y0, y1, y2, hy⟩ := xO hy
  subst hx; subst hy
  simp [go_sem, lT, eqV, eQ, bR]
  (repeat' split) <;> simp_all
 ·obtain ⟨x0, x1, x2, hx⟩ := xO hx
  obtain ⟨y0, y1, y2, hy⟩ := xO hy
  subst hx; subst hy
  simp [go_sem, lT, eqV, eQ, bR]
  (repeat' split) <;> simp_all
set_option maxHeartbeats 1000000 in
theorem b4O : EqT Tryz.prog 124 [3, 1, 1, 3] := by
 refine ⟨by decide, fun w xs ys hx hy => ?_, fun w xs ys hx hy => ?_, fun op x y xs ys w => run_eqGuard_agg w op 124 x y xs ys Tryz.eqGuardType124⟩
 ·obtain ⟨x0, x1, x2, x3, hx⟩ := xP hx
  obtain ⟨y0, y1, y2, y3, hy⟩ := xP hy
  subst hx; subst hy
  simp [go_sem, lT, eqV, eQ, bR]
  (repeat' split) <;> simp_all
 ·obtain ⟨x0, x1, x2, x3, hx⟩ := xP hx
  obtain ⟨y0, y1, y2, y3, hy⟩ := xP hy
  subst hx; subst hy
  simp [go_sem, lT, eqV, eQ, bR]
  (repeat' split) <;> simp_all
set_option maxHeartbeats 1000000 in
theorem b4P : EqT Tryz.prog 155 [1, 1, 1, 3, 1, 1, 3] := by
 refine ⟨by decide, fun w xs ys hx hy => ?_, fun w xs ys hx hy => ?_, fun op x y xs ys w => run_eqGuard_agg w op 155 x y xs ys Tryz.eqGuardType155⟩
 ·obtain ⟨x0, x1, x2, x3, x4, x5, x6, hx⟩ := xQ hx
  obtain ⟨y0, y1, y2, y3, y4, y5, y6, hy⟩ := xQ hy
  subst hx; subst hy
  simp [go_sem, lT, eqV, eQ, bR]
  (repeat' split) <;> simp_all
 ·obtain ⟨x0, x1, x2, x3, x4, x5, x6, hx⟩ := xQ hx
  obtain ⟨y0, y1, y2, y3, y4, y5, y6, hy⟩ := xQ hy
  subst hx; subst hy
  simp [go_sem, lT, eqV, eQ, bR]
  (repeat' split) <;> simp_all
set_option maxHeartbeats 1000000 in
theorem b4Q : EqT Tryz.prog 157 [3, 1] := by
 refine ⟨by decide, fun w xs ys hx hy => ?_, fun w xs ys hx hy => ?_, fun op x y xs ys w => run_eqGuard_agg w op 157 x y xs ys Tryz.eqGuardType157⟩
 ·obtain ⟨x0, x1, hx⟩ := xR hx
  obtain ⟨y0, y1, hy⟩ := xR hy
  subst hx; subst hy
  simp [go_sem, lT, eqV, eQ, bR]
  (repeat' split) <;> simp_all
 ·obtain ⟨x0, x1, hx⟩ := xR hx
  obtain ⟨y0, y1, hy⟩ := xR hy
  subst hx; subst hy
  simp [go_sem, lT, eqV, eQ, bR]
  (repeat' split) <;> simp_all
set_option maxHeartbeats 1000000 in
theorem b4R : EqT Tryz.prog 201 [1, 1, 3] := by
 refine ⟨by decide, fun w xs ys hx hy => ?_, fun w xs ys hx hy => ?_, fun op x y xs ys w => run_eqGuard_agg w op 201 x y xs ys Tryz.eqGuardType201⟩
 ·obtain ⟨x0, x1, x2, hx⟩ := xS hx
  obtain ⟨y0, y1, y2, hy⟩ := xS hy
  subst hx; subst hy
  simp [go_sem, lT, eqV, eQ, bR]
  (repeat' split) <;> simp_all
 ·obtain ⟨x0, x1, x2, hx⟩ := xS hx
  obtain ⟨y0, y1, y2, hy⟩ := xS hy
  subst hx; subst hy
  simp [go_sem, lT, eqV, eQ, bR]
  (repeat' split) <;> simp_all
set_option maxHeartbeats 1000000 in
theorem b4S : EqT Tryz.prog 203 [1, 1, 1, 3, 1, 1, 3] := by
 refine ⟨by decide, fun w xs ys hx hy => ?_, fun w xs ys hx hy => ?_, fun op x y xs ys w => run_eqGuard_agg w op 203 x y xs ys Tryz.eqGuardType203⟩
 ·obtain ⟨x0, x1, x2, x3, x4, x5, x6, hx⟩ := xU hx
  obtain ⟨y0, y1, y2, y3, y4, y5, y6, hy⟩ := xU hy
  subst hx; subst hy
  simp [go_sem, lT, eqV, eQ, bR]
  (repeat' split) <;> simp_all
 ·obtain ⟨x0, x1, x2, x3, x4, x5, x6, hx⟩ := xU hx
  obtain ⟨y0, y1, y2, y3, y4, y5, y6, hy⟩ := xU hy
  subst hx; subst hy
  simp [go_sem, lT, eqV, eQ, bR]
  (repeat' split) <;> simp_all
set_option maxHeartbeats 1000000 in
theorem b4T : EqT Tryz.prog 240 [3, 1, 1, 3] := by
 refine ⟨by decide, fun w xs ys hx hy => ?_, fun w xs ys hx hy => ?_, fun op x y xs ys w => run_eqGuard_agg w op 240 x y xs ys Tryz.eqGuardType240⟩
 ·obtain ⟨x0, x1, x2, x3, hx⟩ := xV hx
  obtain ⟨y0, y1, y2, y3, hy⟩ := xV hy
  subst hx; subst hy
  simp [go_sem, lT, eqV, eQ, bR]
  (repeat' split) <;> simp_all
 ·obtain ⟨x0, x1, x2, x3, hx⟩ := xV hx
  obtain ⟨y0, y1, y2, y3, hy⟩ := xV hy
  subst hx; subst hy
  simp [go_sem, lT, eqV, eQ, bR]
  (repeat' split) <;> simp_all
theorem a9S : ∀ t, eqk t ≠ [] → EqT Tryz.prog t (eqk t) := by
 intro t h
 unfold eqk at h ⊢
 by_cases e23 : t = 23
 ·subst e23; exact b6s
 simp only [e23, if_false] at h ⊢
 by_cases e34 : t = 34
 ·subst e34; exact b6t
 simp only [e34, if_false] at h ⊢
 by_cases e81 : t = 81
 ·subst e81; exact b6u
 simp only [e81, if_false] at h ⊢
 by_cases e122 : t = 122
 ·subst e122; exact b4N
 simp only [e122, if_false] at h ⊢
 by_cases e124 : t = 124
 ·subst e124; exact b4O
 simp only [e124, if_false] at h ⊢
 by_cases e155 : t = 155
 ·subst e155; exact b4P
 simp only [e155, if_false] at h ⊢
 by_cases e157 : t = 157
 ·subst e157; exact b4Q
 simp only [e157, if_false] at h ⊢
 by_cases e201 : t = 201
 ·subst e201; exact b4R
 simp only [e201, if_false] at h ⊢
 by_cases e203 : t = 203
 ·subst e203; exact b4S
 simp only [e203, if_false] at h ⊢
 by_cases e240 : t = 240
 ·subst e240; exact b4T
 simp only [e240, if_false] at h ⊢
 exact (h rfl).elim
noncomputable def EV (C : Ctx) : Env := ⟨Tryz.prog, tt, C, eqk⟩
theorem b7V (C : Ctx) : (EV C).T = tt := rfl
theorem b7W (C : Ctx) : (EV C).eqk = eqk := rfl
attribute [go_sem] tts b7V b7W eqk
theorem reg {C : Ctx} {id : Nat} {ops : List Oper} {F : Ex → St → Prop} {st : St} (h : vcRun (EV C) ops ops st (F .normal) ⟨⟩) : WP Tryz.prog C (.region id ops.toArray false) F st := a9T (E := EV C) zY a9S h.out
instance nReg {C : Ctx} {id : Nat} {ops : List Oper} {F : Ex → St → Prop} {st : St} : Ny (WP Tryz.prog C (.region id ops.toArray false) F st) (vcRun (EV C) ops ops st (F .normal) ⟨⟩) := ⟨reg⟩
instance nCond {C : Ctx} {c : Operand} {x y : Code} {F : Ex → St → Prop} {st : St} : Ny (WP Tryz.prog C (.cond c x y) F st) (Nm (cndK (ev st c) (WP Tryz.prog C x F st) (WP Tryz.prog C y F st) ⟨⟩)) := ⟨fun h => by obtain ⟨b, hs, h1, h2⟩ := h; exact b3i (E := EV C) hs h1 h2⟩
instance clT {C : Ctx} {f : Nat} {args args' : List SV} {res : SV} {st : St} {K : St → SV → Prop} : Cy Tryz.prog f args' res (CallT (EV C) f args st K ⟨⟩) (args.map (eY (bI st.h (dZ args))) = args' ∧ args'.all bX = true) (Nm (K ⟨st.t, bI st.h (dZ args) ++ adH res.all⟩ (adS (bI st.h (dZ args)).length res))) := ⟨fun h o k => ⟨CallS.frz (E := EV C) h o.1 o.2 k⟩⟩
instance clD {C : Ctx} {f : Nat} {args args' : List SV} {res : SV} {h : List HB} {k : SV → Prop} : Cy Tryz.prog f args' res (CallD (EV C) f args h k ⟨⟩) ((args.map (eY h) = args' ∧ args'.all bX = true) ∧ res.all.all isD = true) (Nm (k res)) := ⟨fun hf o hk => CallD.of_fn (E := EV C) hf o.1.1 o.1.2 o.2 hk⟩
instance clG {C : Ctx} {f : Nat} {args args' : List SV} {res : SV} {h : List HB} {k : List HB → SV → Prop} : Cy Tryz.prog f args' res (CallG (EV C) f args h k ⟨⟩) (args.map (eY (bI h (dZ args))) = args' ∧ args'.all bX = true) (Nm (k (bI h (dZ args) ++ adH res.all) (adS (bI h (dZ args)).length res))) := ⟨fun hf o hk => CallG.frz (E := EV C) hf o.1 o.2 hk⟩
theorem fol : Tryz.prog.follows .mixedOrders = true := by kernel_rfl
theorem b4U {C : Ctx} {id : Nat} {ops : List Oper} {F : Ex → St → Prop} {st : St} (hB : Region.lexB .any ops.toArray = true) (h : vcDRun (EV C) ops ops st (F .normal) ⟨⟩) : WP Tryz.prog C (.region id ops.toArray true) F st := b3n (E := EV C) zY a9S fol hB h.out
theorem ent {f : Nat} {fn : Func} {c : Code} {rs : List ResultVar} {args : List SV} {res : SV} (hf : Tryz.prog.funcs[f]? = some fn) (hb : fn.body = some c) (hcall : ∀ x w, (callFunc f x).run Tryz.prog w = .ok (.enter f x) w) (hres : fn.results = rs.toArray)
    (h : ∀ C : Ctx, WP Tryz.prog C c (bN Tryz.prog C [] (b1l (EV C) rs res)) (st0 args fn.ntmps)) : FnC Tryz.prog f args res := FnC.of_wp (eqk := eqk) zY hf hb hcall hres fun C _ => h C
theorem b6v {C : Ctx} {f : Nat} {args args' : List SV} {res : SV} {h : List HB} {k : SV → Prop} (hf : FnC Tryz.prog f args' res) (h1 : args.map (dY h) = args') (h2 : args'.all bX = true) (h3 : res.all.all isD = true) (h4 : res.all.all lS = true) (hk : k res) : CallD (EV C) f args h k ⟨⟩ := CallD.of_own (E := EV C) hf h1 h2 h3 h4 hk
theorem b7X {C : Ctx} {f : Nat} {args args' : List SV} {res : SV} {st : St} {K : St → SV → Prop} (h : FnC Tryz.prog f args' res) (he : args.map (dY (bI st.h (dZ args))) = args') (hfree : args'.all bX = true) (hres : res.all.all lS = true) (k : K ⟨st.t, bI st.h (dZ args) ++ adG (fun _ => none) 0 res.all⟩ (adS (bI st.h (dZ args)).length res)) : CallT (EV C) f args st K ⟨⟩ := ⟨CallS.lendF (E := EV C) h he hfree hres k⟩
theorem b7Y {C : Ctx} {f ty sz id : Nat} {rows rows' : List (List D)} {args' rest : List SV} {st : St} {K : St → SV → Prop} (h : FnI Tryz.prog f ty sz rows args' false rows') (hid : bK (bI st.h (dZ rest)) id = .row ty sz rows true) (he : rest.map (eY (bI st.h (dZ rest))) = args') (hfree : args'.all bX = true) (k : K ⟨st.t.map (yL id), setH ((bI st.h (dZ rest)).map (pQ id)) id (.row ty sz rows' true)⟩ (.o (.s id))) : CallT (EV C) f (.o (.s id) :: rest) st K ⟨⟩ := ⟨CallS.give (E := EV C) h hid he hfree (by simpa using k)⟩
theorem b7Z {C : Ctx} {f ty sz id : Nat} {rows rows' : List (List D)} {args' rest : List SV} {st : St} {K : St → SV → Prop} (h : FnI Tryz.prog f ty sz rows args' true rows') (hid : bK (bI st.h (dZ rest)) id = .row ty sz rows true) (he : rest.map (eY (bI st.h (dZ rest))) = args') (hfree : args'.all bX = true) (k : K ⟨st.t, setH (bI st.h (dZ rest)) id (.row ty sz rows' true)⟩ (.t [])) : CallT (EV C) f (.o (.s id) :: rest) st K ⟨⟩ := ⟨CallS.give (E := EV C) h hid he hfree (by simpa using k)⟩
theorem b8a {C : Ctx} {f : Nat} {args args' : List SV} {res : SV} {st : St} {K : St → SV → Prop} (h : FnC Tryz.prog f args' res) (he : args.map (dY st.h) = args') (hfree : args'.all bX = true) (hres : res.all.all lS = true) (k : K ⟨st.t, st.h ++ adG (fun _ => none) 0 res.all⟩ (adS st.h.length res)) : CallT (EV C) f args st K ⟨⟩ := ⟨CallS.lend (E := EV C) h he hfree hres k⟩
theorem b8b {C : Ctx} {f : Nat} {args args' : List SV} {res : SV} {st : St} {K : St → SV → Prop} (h : FnC Tryz.prog f args' res) (he : args.map (dY st.h) = args') (hfree : args'.all bX = true) (hres : res.all.all lS = true) (k : K ⟨st.t, st.h ++ adH res.all⟩ (adS st.h.length res)) : CallT (EV C) f args st K ⟨⟩ := ⟨CallS.lendW (E := EV C) h he hfree hres k⟩
theorem rS {C : Ctx} {id : Nat} {ops l m : List Oper} {F : Ex → St → Prop} {st : St} (ps ds : List Nat) (hl : rdX ds ops = l) (hm : a4N ops = m) (hok : (a8N ops ps ds && b0l ps ops && ps.all fun i => decide (i < ops.length)) = true) (hb : st.okB = true) (h : vcGRun (EV C) ds ops m st (fun st1 => vcStT (EV C) ops l ds ps ⟨st1.t, st.h⟩ (F .normal) ⟨⟩) ⟨⟩) : WP Tryz.prog C (.region id ops.toArray true) F st := by
 subst hl hm
 have e : (fun st1 : St => vcStT (EV C) ops (rdX ds ops) ds ps ⟨st1.t, st.h⟩ (F .normal) ⟨⟩) = (fun st1 => yN (EV C) ops ds ps ⟨st1.t, st.h⟩ (F .normal)) := funext fun s => propext ⟨fun h => h.out rfl, fun h => ⟨fun _ => h⟩⟩
 rw [e] at h
 simp only [Bool.and_eq_true] at hok
 exact b0o (E := EV C) zY a9S fol ps ds hok.1.1 hok.1.2 hok.2 hb h.out
theorem cGo {C : Ctx} {f : Nat} {args args' : List SV} {res : SV} {h : List HB} {k : List HB → SV → Prop} (hf : FnC Tryz.prog f args' res) (he : args.map (dY h) = args') (hfree : args'.all bX = true) (hres : res.all.all lS = true) (hk : k (h ++ adG (fun _ => none) 0 res.all) (adS h.length res)) : CallG (EV C) f args h k ⟨⟩ := CallG.lend (E := EV C) hf he hfree hres hk
theorem cGr {C : Ctx} {f : Nat} {args args' : List SV} {res : SV} {h : List HB} {k : List HB → SV → Prop} (hf : FnC Tryz.prog f args' res) (he : args.map (dY h) = args') (hfree : args'.all bX = true) (hres : res.all.all lS = true) (hk : k (h ++ adH res.all) (adS h.length res)) : CallG (EV C) f args h k ⟨⟩ := CallG.lendW (E := EV C) hf he hfree hres hk
theorem cDr {C : Ctx} {f ty sz : Nat} {rows : List (List D)} {args args' : List SV} {h : List HB} {k : SV → Prop} (hf : FnC Tryz.prog f args' (.o (.w ty sz rows))) (h1 : args.map (dY h) = args') (h2 : args'.all bX = true) (h3 : iL rows = true) (hk : k (.o (.d (.sl rows)))) : CallD (EV C) f args h k ⟨⟩ := CallD.of_lend (E := EV C) hf h1 h2 h3 hk
theorem vO {C : Ctx} {f : Nat} {args args' : List SV} {res : SV} {st : St} {K : St → SV → Prop} (h : FnC Tryz.prog f args' res) (k : Nm (K ⟨st.t, bI st.h (dZ args) ++ adG (fun _ => none) 0 res.all⟩ (adS (bI st.h (dZ args)).length res))) (he : args.map (dY (bI st.h (dZ args))) = args' := by simp only [go_sem, qH] <;> fail) (hfree : args'.all bX = true := by simp only [go_sem, qH] <;> fail) (hres : res.all.all lS = true := by simp only [go_sem, qH] <;> fail) : CallT (EV C) f args st K ⟨⟩ := b7X h he hfree hres k
theorem vQ {C : Ctx} {f : Nat} {args args' : List SV} {res : SV} {h : List HB} {k : SV → Prop} (hf : FnC Tryz.prog f args' res) (hk : Nm (k res)) (h1 : args.map (dY h) = args' := by simp only [go_sem, qH] <;> fail) (h2 : args'.all bX = true := by simp only [go_sem, qH] <;> fail) (h3 : res.all.all isD = true := by simp only [go_sem, qH] <;> fail) (h4 : res.all.all lS = true := by simp only [go_sem, qH] <;> fail) : CallD (EV C) f args h k ⟨⟩ := b6v hf h1 h2 h3 h4 hk
theorem vI {C : Ctx} {f ty sz id : Nat} {rows rows' : List (List D)} {args' rest : List SV} {st : St} {K : St → SV → Prop} (h : FnI Tryz.prog f ty sz rows args' false rows') (k : Nm (K ⟨st.t.map (yL id), setH ((bI st.h (dZ rest)).map (pQ id)) id (.row ty sz rows' true)⟩ (.o (.s id)))) (hid : bK (bI st.h (dZ rest)) id = .row ty sz rows true := by simp only [go_sem, qH] <;> fail) (he : rest.map (eY (bI st.h (dZ rest))) = args' := by simp only [go_sem, qH] <;> fail) (hfree : args'.all bX = true := by simp only [go_sem, qH] <;> fail) : CallT (EV C) f (.o (.s id) :: rest) st K ⟨⟩ := b7Y h hid he hfree k
theorem vJ {C : Ctx} {f ty sz id : Nat} {rows rows' : List (List D)} {args' rest : List SV} {st : St} {K : St → SV → Prop} (h : FnI Tryz.prog f ty sz rows args' true rows') (k : Nm (K ⟨st.t, setH (bI st.h (dZ rest)) id (.row ty sz rows' true)⟩ (.t []))) (hid : bK (bI st.h (dZ rest)) id = .row ty sz rows true := by simp only [go_sem, qH] <;> fail) (he : rest.map (eY (bI st.h (dZ rest))) = args' := by simp only [go_sem, qH] <;> fail) (hfree : args'.all bX = true := by simp only [go_sem, qH] <;> fail) : CallT (EV C) f (.o (.s id) :: rest) st K ⟨⟩ := b7Z h hid he hfree k
theorem vL {C : Ctx} {f : Nat} {args args' : List SV} {res : SV} {st : St} {K : St → SV → Prop} (h : FnC Tryz.prog f args' res) (k : Nm (K ⟨st.t, st.h ++ adG (fun _ => none) 0 res.all⟩ (adS st.h.length res))) (he : args.map (dY st.h) = args' := by simp only [go_sem, qH] <;> fail) (hfree : args'.all bX = true := by simp only [go_sem, qH] <;> fail) (hres : res.all.all lS = true := by simp only [go_sem, qH] <;> fail) : CallT (EV C) f args st K ⟨⟩ := b8a h he hfree hres k
theorem vR {C : Ctx} {f : Nat} {args args' : List SV} {res : SV} {st : St} {K : St → SV → Prop} (h : FnC Tryz.prog f args' res) (k : Nm (K ⟨st.t, st.h ++ adH res.all⟩ (adS st.h.length res))) (he : args.map (dY st.h) = args' := by simp only [go_sem, qH] <;> fail) (hfree : args'.all bX = true := by simp only [go_sem, qH] <;> fail) (hres : res.all.all lS = true := by simp only [go_sem, qH] <;> fail) : CallT (EV C) f args st K ⟨⟩ := b8b h he hfree hres k
theorem vG {C : Ctx} {f : Nat} {args args' : List SV} {res : SV} {h : List HB} {k : List HB → SV → Prop} (hf : FnC Tryz.prog f args' res) (hk : Nm (k (h ++ adH res.all) (adS h.length res))) (he : args.map (dY h) = args' := by simp only [go_sem, qH] <;> fail) (hfree : args'.all bX = true := by simp only [go_sem, qH] <;> fail) (hres : res.all.all lS = true := by simp only [go_sem, qH] <;> fail) : CallG (EV C) f args h k ⟨⟩ := cGr hf he hfree hres hk
theorem vD {C : Ctx} {f ty sz : Nat} {rows : List (List D)} {args args' : List SV} {h : List HB} {k : SV → Prop} (hf : FnC Tryz.prog f args' (.o (.w ty sz rows))) (hk : Nm (k (.o (.d (.sl rows))))) (h1 : args.map (dY h) = args' := by simp only [go_sem, qH] <;> fail) (h2 : args'.all bX = true := by simp only [go_sem, qH] <;> fail) (h3 : iL rows = true := by simp only [go_sem, qH] <;> fail) : CallD (EV C) f args h k ⟨⟩ := cDr hf h1 h2 h3 hk
theorem rD {C : Ctx} {id : Nat} {ops : List Oper} {F : Ex → St → Prop} {st : St} (h : vcDRun (EV C) ops ops st (F .normal) ⟨⟩) (hB : Region.lexB .any ops.toArray = true := by kernel_rfl) : WP Tryz.prog C (.region id ops.toArray true) F st := b4U hB h
theorem rT {C : Ctx} {id : Nat} {ops l m : List Oper} {F : Ex → St → Prop} {st : St} (ps : List Nat) (ds : List Nat) (h : vcGRun (EV C) ds ops m st (fun st1 => vcStT (EV C) ops l ds ps ⟨st1.t, st.h⟩ (F .normal) ⟨⟩) ⟨⟩) (hl : rdX ds ops = l := by simp only [go_sem]; rfl) (hm : a4N ops = m := by simp only [go_sem]; rfl) (hok : (a8N ops ps ds && b0l ps ops && ps.all fun i => decide (i < ops.length)) = true := by decide +kernel) (hb : st.okB = true := by simp only [go_sem] <;> fail) : WP Tryz.prog C (.region id ops.toArray true) F st := rS ps ds hl hm hok hb h
end Go.Proofs.YtgpoopjfkplilaaGreatDoor
end
section
section
set_option linter.all false
namespace Go.Sx
open Go Go.RowKit
def V0 (w : World) : View := fun b => match w.heap[b]? with
 | some (.cells c _ _) => some c.toList
 | _ => none
theorem b5w (w : World) : Mod (V0 w) w := fun b cs h => by
 unfold V0 at h
 split at h
 ·rename_i c t f e
  cases h
  exact ⟨c, t, f, e, List.prefix_refl _⟩
 ·cases h
theorem b3S {w : World} {a : Addr} {y : Value} (h : w.cell? a = some y) : (V0 w).cell a = some y := by
 unfold World.cell? at h
 unfold View.cell V0
 split at h
 ·rename_i c t f e
  by_cases hs : a.spot.isSome
  ·rw [if_pos hs] at h; cases h
  ·rw [if_neg hs] at h ⊢
   rw [e]
   simpa using h
 ·cases h
def a3r (T : Nat → Ty) : Nat → List (Nat × Nat) → Option Nat
 | o, [] => some o
 | o, p :: r => if p.1 = o ∧ (T p.2).tag ≠ 0 then a3r T (o + (T p.2).size) r else none
def Cl (T : Nat → Ty) : Prop := ∀ t, ((T t).tag = 1 → a3r T 0 (T t).flds = some (T t).size) ∧ ((T t).tag = 2 → (T (T t).elem).tag ≠ 0) ∧ ((T t).tag = 3 → (T t).kind = .i64 ∨ (T t).kind = .u8)
def clB (l : List Ty) (d : Ty) : Bool := match d.tag with
 | 1 => a3r (fun t => l.getD t .bad) 0 d.flds == some d.size
 | 2 => (l.getD d.elem .bad).tag != 0
 | 3 => d.kind == .i64 || d.kind == .u8
 | _ => true
theorem Cl.of_list {l : List Ty} (h : l.all (clB l) = true) : Cl (fun t => l.getD t .bad) := fun t => by
 have key : clB l (l.getD t .bad) = true := by
  rcases Nat.lt_or_ge t l.length with hl | hl
  ·rw [List.getD_eq_getElem?_getD, List.getElem?_eq_getElem hl]
   exact List.all_eq_true.1 h _ (List.getElem_mem hl)
  ·rw [List.getD_eq_getElem?_getD, List.getElem?_eq_none hl]; rfl
 unfold clB at key
 refine ⟨fun e => ?_, fun e => ?_, fun e => ?_⟩
 ·simp only [e] at key; simpa using key
 ·simp only [e] at key; simpa using key
 ·simp only [e] at key; simpa using key
def ShFs (sh : Nat → List D → Prop) : List (Nat × Nat) → List D → Prop
 | [], ds => ds = []
 | p :: r, ds => ∃ a b, ds = a ++ b ∧ sh p.2 a ∧ ShFs sh r b
def ShD (T : Nat → Ty) : Nat → Nat → List D → Prop
 | 0, _, _ => False
 | n + 1, t, ds => match (T t).tag with
  | 1 => ShFs (ShD T n) (T t).flds ds
  | 2 => ∃ rows, ds = [.sl rows] ∧ rows.length ≤ maxLen ∧ ∀ r ∈ rows, ShD T n (T t).elem r
  | 3 => ∃ i, ds = [.v (.int (T t).kind i)] ∧ inR (T t).kind i
  | 4 => ∃ b, ds = [bv b]
  | 5 => ∃ s : ByteArray, ds = [sv s] ∧ s.size ≤ maxLen
  | _ => False
theorem a0k {α β : Type} {f : α → Option β} : ∀ {l : List α} {ys : List β}, l.mapM f = some ys → ∀ (i : Nat) (x : α), l[i]? = some x → ∃ y, f x = some y ∧ ys[i]? = some y
 | [], _, _, i, x, h => by simp at h
 | a :: l, ys, h, i, x, hx => by
  rw [List.mapM_cons] at h
  cases hfa : f a with
  | none => rw [hfa] at h; cases h
  | some b =>
   rw [hfa] at h
   cases hl : l.mapM f with
   | none => rw [hl] at h; cases h
   | some bs =>
    rw [hl] at h
    cases h
    cases i with
    | zero => simp at hx; subst hx; exact ⟨b, hfa, rfl⟩
    | succ i => simpa using a0k hl i x (by simpa using hx)
theorem a6f {α β : Type} {f : α → Option β} : ∀ {l : List α} {ys : List β}, l.mapM f = some ys → ys.length = l.length
 | [], ys, h => by cases h; rfl
 | a :: l, ys, h => by
  rw [List.mapM_cons] at h
  cases hfa : f a with
  | none => rw [hfa] at h; cases h
  | some b =>
   rw [hfa] at h
   cases hl : l.mapM f with
   | none => rw [hl] at h; cases h
   | some bs => rw [hl] at h; cases h; simp [a6f hl]
theorem a6g {α : Type} (enc : α → List D) (wf : α → Prop) : ∀ {rows : List (List D)}, (∀ r ∈ rows, ∃ x, r = enc x ∧ wf x) → ∃ l : List α, rows = l.map enc ∧ ∀ x ∈ l, wf x
 | [], _ => ⟨[], rfl, fun x h => by cases h⟩
 | r :: rows, h => by
  obtain ⟨x, rfl, hx⟩ := h r (by simp)
  obtain ⟨l, rfl, hl⟩ := a6g enc wf (rows := rows) fun r hr => h r (by simp [hr])
  exact ⟨x :: l, rfl, fun y hy => (List.mem_cons.1 hy).elim (fun e => e ▸ hx) (hl y)⟩
section
variable {H : Type} {enc : TypeId × Value → H} {P : Program} {w : World} {T : Nat → Ty}
theorem a7R {base : Nat} {a : Addr} {n : Nat} {cs : List Value} (h : w.cells? base a n = some cs) : cs.length = n ∧ ∀ k y, cs[k]? = some y → (V0 w).cell (a.add k) = some y := by
 unfold World.cells? at h
 split at h
 ·have hl := a6f h
  rw [List.length_range] at hl
  refine ⟨hl, fun k y hk => ?_⟩
  have hk' : k < n := by rw [← hl]; exact (List.getElem?_eq_some_iff.1 hk).1
  obtain ⟨y', h1, h2⟩ := a0k h k k (by simp [hk'])
  rw [hk] at h2; cases h2
  exact b3S h1
 ·cases h
theorem TyGood.cells {t : Nat} {d : Ty} {i : TypeInfo} {z : Value} {u : TypeDesc} (h : TyGood P t d i z u) : P.cellsOf t = d.size := by
 simp [Program.cellsOf, h.info, h.size]
theorem TyOK.cells (hT : TyOK P T) {t : Nat} (ht : (T t).tag ≠ 0) : P.cellsOf t = (T t).size := by
 obtain ⟨i, z, u, h⟩ := hT.good ht; exact h.cells
theorem a3s (hT : TyOK P T) {n : Nat} {sh : Nat → List D → Prop} {spare : Nat → Bool}
    (ih : ∀ t cs d ps, (T t).tag ≠ 0 → DataW.trod enc P w 0 spare true n t cs = some (d, ps) → ∃ ds Ss, sh t ds ∧ LayL (V0 w) ds cs Ss) {cs : List Value} :
    ∀ {fs : List Field} {ps : List (Nat × Nat)} {o : Nat} {xs : List (DataW H × List MemPlace)}, iF fs ps = true → a3r T o ps = some cs.length →
     (fs.mapM fun f => DataW.trod enc P w 0 spare true n f.type ((cs.drop f.offset).take (P.cellsOf f.type))) = some xs → ∃ ds Ss, ShFs sh ps ds ∧ LayL (V0 w) ds (cs.drop o) Ss
 | [], [], o, xs, _, ht, _ => by
  simp only [a3r, Option.some.injEq] at ht
  subst ht
  exact ⟨[], [], rfl, by rw [List.drop_length]; exact LayL.nil _⟩
 | f :: fs, p :: ps, o, xs, hf, ht, hm => by
  simp only [iF, Bool.and_eq_true, beq_iff_eq] at hf
  simp only [a3r] at ht
  split at ht
  ·rename_i hp
   rw [List.mapM_cons] at hm
   cases h1 : DataW.trod enc P w 0 spare true n f.type ((cs.drop f.offset).take (P.cellsOf f.type)) with
   | none => rw [h1] at hm; cases hm
   | some x =>
    rw [h1] at hm
    cases h2 : (fs.mapM fun f => DataW.trod enc P w 0 spare true n f.type ((cs.drop f.offset).take (P.cellsOf f.type))) with
    | none => rw [h2] at hm; cases hm
    | some ys =>
     obtain ⟨ds, Ss, q1, q2⟩ := ih _ _ x.1 x.2 (by rw [hf.1.2]; exact hp.2) h1
     obtain ⟨ds', Ss', q3, q4⟩ := a3s hT ih hf.2 ht h2
     rw [hf.1.2] at q1 q2
     rw [hT.cells hp.2, hf.1.1, hp.1] at q2
     refine ⟨ds ++ ds', Ss ++ Ss', ⟨ds, ds', rfl, q1, q3⟩, ?_⟩
     have e : cs.drop o = (cs.drop o).take (T p.2).size ++ cs.drop (o + (T p.2).size) := by
      rw [← List.drop_drop, List.take_append_drop]
     rw [e]
     exact q2.append q4
  ·cases ht
 | [], _ :: _, _, _, h, _, _ => by simp [iF] at h
 | _ :: _, [], _, _, h, _, _ => by simp [iF] at h
theorem a3t {sh : List D → Prop} {a : Addr} {sz : Nat} {g : List Value → Option (DataW H × List MemPlace)}
    (ih : ∀ cs d ps, g cs = some (d, ps) → ∃ ds Ss, sh ds ∧ LayL (V0 w) ds cs Ss) :
    ∀ {n : Nat}, (∀ i, i < n → ∃ x, ((w.cells? 0 (a.add (i * sz)) sz).bind g) = some x) →
     ∃ (rows : List (List D)) (ys : List Value) (Ss : List (List Nat)), rows.length = n ∧ (∀ r ∈ rows, sh r ∧ r.length = sz) ∧ ys.length = n * sz ∧ (∀ k y, ys[k]? = some y → (V0 w).cell (a.add k) = some y) ∧ LayL (V0 w) rows.flatten ys Ss
 | 0, _ => ⟨[], [], [], rfl, fun r h => (by cases h), by simp, fun k y h => (by simp at h), LayL.nil _⟩
 | n + 1, h => by
  obtain ⟨rows, ys, Ss, r1, r2, r3, r4, r5⟩ := a3t ih (n := n) fun i hi => h i (by omega)
  obtain ⟨x, hx⟩ := h n (by omega)
  cases hc : w.cells? 0 (a.add (n * sz)) sz with
  | none => rw [hc] at hx; cases hx
  | some cs =>
   rw [hc] at hx
   obtain ⟨ds, Ss', q1, q2⟩ := ih cs x.1 x.2 hx
   obtain ⟨c1, c2⟩ := a7R hc
   refine ⟨rows ++ [ds], ys ++ cs, Ss ++ Ss', by simp [r1], fun r hr => ?_, by simp [r3, c1, Nat.succ_mul], fun k y hk => ?_, by simpa using r5.append q2⟩
   ·rcases List.mem_append.1 hr with hr | hr
    ·exact r2 r hr
    ·rw [List.mem_singleton] at hr; subst hr; exact ⟨q1, by rw [← q2.1, c1]⟩
   ·rw [List.getElem?_append] at hk
    split at hk
    ·exact r4 k y hk
    ·rename_i hlt
     have := c2 _ y hk
     rw [yH] at this
     rw [r3] at this hlt
     rwa [show n * sz + (k - n * sz) = k by omega] at this
theorem a4V (hT : TyOK P T) (hC : Cl T) : ∀ {n t : Nat} {cs : List Value} {d : DataW H} {ps : List MemPlace}, (T t).tag ≠ 0 → DataW.trod enc P w 0 (fun _ => true) true n t cs = some (d, ps) → ∃ ds Ss, ShD T n t ds ∧ LayL (V0 w) ds cs Ss
 | 0, _, _, _, _, _, h => by simp [DataW.trod] at h
 | n + 1, t, cs, d, ps, ht, h => by
  obtain ⟨i, z, u, hg⟩ := hT.good ht
  have one : ∀ {d : D} {y : Value}, (∃ S, Lay (V0 w) d y S) → ∃ Ss, LayL (V0 w) [d] [y] Ss := fun ⟨S, hS⟩ => ⟨[S], rfl, rfl, fun k d' y' S' h1 h2 h3 => by
   cases k with
   | zero => simp at h1 h2 h3; subst h1; subst h2; subst h3; exact hS
   | succ k => simp at h1⟩
  have hu := hg.und
  have huok := hg.uok
  by_cases e1 : (T t).tag = 1
  ·obtain ⟨fs, rfl, hf⟩ := hg.struct e1
   simp only [DataW.trod, hu] at h
   split at h
   ·rename_i hlen
    simp only [Option.map_eq_some_iff] at h
    obtain ⟨xs, hm, _⟩ := h
    rw [hg.cells] at hlen
    obtain ⟨ds, Ss, q1, q2⟩ := a3s (sh := ShD T n) hT (fun t cs d ps ht h => a4V hT hC ht h) hf (by rw [hlen]; exact (hC t).1 e1) hm
    exact ⟨ds, Ss, by simp only [ShD, e1]; exact q1, by simpa using q2⟩
   ·cases h
  by_cases e2 : (T t).tag = 2
  ·have := hg.slice e2
   subst this
   have he := (hC t).2.1 e2
   simp only [DataW.trod, hu] at h
   split at h <;> try (simp_all; done)
   ·rename_i e' hh; injection hh with hh; injection hh with hh; subst hh
    obtain ⟨Ss, hL⟩ := one ⟨[], Lay.nil (V := V0 w)⟩
    exact ⟨[.sl []], Ss, by simp only [ShD, e2]; exact ⟨[], rfl, by simp, fun r h => by cases h⟩, hL⟩
   ·rename_i e' a len cap hh
    injection hh with hh; injection hh with hh; subst hh
    split at h
    ·rename_i hc
     simp only [Option.bind_eq_some_iff] at h
     obtain ⟨elems, hm, _⟩ := h
     have hcell := hT.cells he
     rw [hcell] at hm
     obtain ⟨rows, ys, Ss, r1, r2, r3, r4, r5⟩ := a3t (w := w) (a := a) (sz := (T (T t).elem).size) (sh := ShD T n (T t).elem) (g := DataW.trod enc P w 0 (fun _ => true) true n (T t).elem) (fun cs d ps h => a4V hT hC he h) (n := len) (fun i hi => by
      obtain ⟨y, h1, _⟩ := a0k hm i i (by simp [hi])
      exact ⟨y, h1⟩)
     obtain ⟨Ss', hL⟩ := one ⟨_, Lay.sl (V := V0 w) rows a cap (T (T t).elem).size ys Ss (fun r hr => (r2 r hr).2) (by omega) hc.2.2 (by rw [r5.1]) r5.2.1 r4 r5.2.2⟩
     rw [r1] at hL
     exact ⟨[.sl rows], Ss', by simp only [ShD, e2]; exact ⟨rows, rfl, by omega, fun r hr => (r2 r hr).1⟩, hL⟩
    ·cases h
  by_cases e3 : (T t).tag = 3
  ·have := hg.int e3
   subst this
   have hk := (hC t).2.2 e3
   simp only [DataW.trod, hu] at h
   split at h <;> try (simp_all; done)
   rename_i k k' m hh
   injection hh with hh; injection hh with hh; subst hh
   split at h
   ·rename_i hw
    obtain ⟨rfl, hw⟩ := hw
    obtain ⟨Ss, hL⟩ := one ⟨[], Lay.v (V := V0 w) (.int _ m) rfl⟩
    have hin : inR (T t).kind m := by
     simp only [Lit.wf, Bool.and_eq_true, decide_eq_true_eq] at hw
     rcases hk with hk | hk <;> rw [hk] at hw ⊢ <;> simpa [inR, IntKind.min, IntKind.max, IntKind.bits, IntKind.signed] using hw
    exact ⟨_, Ss, by simp only [ShD, e3]; exact ⟨m, rfl, hin⟩, hL⟩
   ·cases h
  by_cases e4 : (T t).tag = 4
  ·have := hg.bool e4
   subst this
   simp only [DataW.trod, hu] at h
   split at h <;> try (simp_all; done)
   rename_i b _
   obtain ⟨Ss, hL⟩ := one ⟨[], Lay.v (V := V0 w) (.bool b) rfl⟩
   exact ⟨_, Ss, by simp only [ShD, e4]; exact ⟨b, rfl⟩, hL⟩
  by_cases e5 : (T t).tag = 5
  ·have := hg.string e5
   subst this
   simp only [DataW.trod, hu] at h
   split at h <;> try (simp_all; done)
   rename_i s _
   split at h
   ·rename_i hs
    obtain ⟨Ss, hL⟩ := one ⟨[], Lay.v (V := V0 w) (.string s) rfl⟩
    exact ⟨_, Ss, by simp only [ShD, e5]; exact ⟨s, rfl, hs⟩, hL⟩
   ·cases h
  ·exfalso
   unfold uC at huok
   split at huok <;> simp_all
def pk (T : Nat → Ty) (t : Nat) (ds : List D) : SV := a0U (T t).agg (ds.map .d)
def ShAll (T : Nat → Ty) : List Nat → List (List D) → Prop
 | [], [] => True
 | t :: ts, d :: ds => (∃ n, ShD T n t d) ∧ ShAll T ts ds
 | _, _ => False
def pks (T : Nat → Ty) : List Nat → List (List D) → List SV
 | t :: ts, d :: ds => pk T t d :: pks T ts ds
 | _, _ => []
theorem a8R {V : View} {ds : List D} {ys : List Value} {Ss : List (List Nat)} (h : LayL V ds ys Ss) : cL [] V (ds.map .d) ys := by
 refine ⟨by simpa using h.1, fun k a y h1 h2 => ?_⟩
 rw [List.getElem?_map] at h1
 cases hd : ds[k]? with
 | none => rw [hd] at h1; cases h1
 | some d =>
  rw [hd] at h1; cases h1
  have hk : k < Ss.length := by rw [h.2.1]; exact (List.getElem?_eq_some_iff.1 hd).1
  exact ⟨_, h.2.2 k d y _ hd h2 (List.getElem?_eq_getElem hk)⟩
theorem b1Z (hT : TyOK P T) (hC : Cl T) {t : Nat} (ht : (T t).tag ≠ 0) {r : Reach} {base : Nat} {v : Value} {d : DataW H} {ps : List MemPlace}
    (hval : Value.okWide P w r base t v) (h : DataW.Trod enc P w 0 (fun _ => true) true t v d ps) : ∃ ds, (∃ n, ShD T n t ds) ∧ cSV [] (V0 w) (pk T t ds) v := by
 obtain ⟨n, h⟩ := h
 obtain ⟨i, z, u, hg⟩ := hT.good ht
 obtain ⟨ds, Ss, q1, q2⟩ := a4V hT hC ht h
 refine ⟨ds, ⟨n, q1⟩, ?_⟩
 have hu := hg.und
 unfold Value.okWide at hval
 by_cases e1 : (T t).tag = 1
 ·obtain ⟨fs, rfl, hf⟩ := hg.struct e1
  rw [hu] at hval
  obtain ⟨cs, rfl, _⟩ := hval
  simp only [pk, Ty.agg, e1, a0U]
  exact ⟨cs.toList, rfl, a8R q2⟩
 ·have hag : (T t).agg = false := by simp [Ty.agg, e1]
  have hv : v.cells.toList = [v] := by
   have huok := hg.uok
   cases v with
   | agg cs =>
    exfalso
    rw [hu] at hval
    unfold uC at huok
    split at huok <;> simp_all [Cell.okWide, Cell.ok]
   | _ => rfl
  rw [hv] at q2
  obtain ⟨c1, c2⟩ := a8R q2
  have hl : ds.length = 1 := by simpa using c1.symm
  match ds, hl with
  | [x], _ =>
   simp only [pk, hag, a0U, List.map_cons, List.map_nil]
   exact c2 0 _ _ rfl rfl
theorem a3u (hT : TyOK P T) (hC : Cl T) {r : Reach} {base : Nat} : ∀ {ts : List Nat} {vs : List Value} {dd : List (DataW H)} {ps : List MemPlace}, (∀ t ∈ ts, (T t).tag ≠ 0) →
    (∀ (j : Nat) (t : Nat) (v : Value), ts[j]? = some t → vs[j]? = some v → Value.okWide P w r base t v) → DataW.TrodAll enc P w 0 (fun _ => true) true ts vs dd ps → ∃ dss, ShAll T ts dss ∧ lY (V0 w) (pks T ts dss) vs
 | [], [], [], _, _, _, _ => ⟨[], trivial, rfl, fun k s y h => by simp [pks] at h⟩
 | t :: ts, v :: vs, d :: dd, ps, ht, hval, h => by
  obtain ⟨p, q, h1, h2, _⟩ := h
  obtain ⟨ds, s1, s2⟩ := b1Z hT hC (ht t (by simp)) (hval 0 t v rfl rfl) h1
  obtain ⟨dss, s3, s4⟩ := a3u hT hC (fun t ht' => ht t (by simp [ht'])) (fun j t v a b => hval (j + 1) t v (by simpa using a) (by simpa using b)) h2
  refine ⟨ds :: dss, ⟨s1, s3⟩, by simp [pks, s4.1], fun k s y a b => ?_⟩
  cases k with
  | zero => simp [pks] at a b; subst a; subst b; exact s2
  | succ k => exact s4.2 k s y (by simpa [pks] using a) (by simpa using b)
 | [], _ :: _, _, _, _, _, h => by simp [DataW.TrodAll] at h
 | [], [], _ :: _, _, _, _, h => by simp [DataW.TrodAll] at h
 | _ :: _, [], _, _, _, _, h => by simp [DataW.TrodAll] at h
 | _ :: _, _ :: _, [], _, _, _, h => by simp [DataW.TrodAll] at h
theorem wD (hl : laidOutB P = true) {W' : World} (hb : Below w.heap.size w W') : ∀ {ts : List Nat} {vs : List Value} {dd : List (DataW H)} {ps : List MemPlace}, (∀ t ∈ ts, P.readableRec t = true ∧ t < P.types.size) →
    DataW.TrodAll enc P w 0 (fun _ => true) true ts vs dd ps → (∀ x ∈ ps, x.block < w.heap.size) → DataW.TrodAll enc P W' 0 (fun b => decide (b < w.heap.size)) true ts vs dd ps
 | [], [], [], _, _, h, _ => h
 | t :: ts, v :: vs, d :: dd, ps, ht, h, hlt => by
  obtain ⟨p, q, h1, h2, rfl⟩ := h
  obtain ⟨r1, r2⟩ := ht t (by simp)
  exact ⟨p, q, Below.trod hl r1 r2 h1 hb (fun x hx => hlt x (List.mem_append.2 (.inl hx))), wD hl hb (fun t ht' => ht t (by simp [ht'])) h2 (fun x hx => hlt x (List.mem_append.2 (.inr hx))), rfl⟩
 | [], _ :: _, _, _, _, h, _ => by simp [DataW.TrodAll] at h
 | [], [], _ :: _, _, _, h, _ => by simp [DataW.TrodAll] at h
 | _ :: _, [], _, _, _, h, _ => by simp [DataW.TrodAll] at h
 | _ :: _, _ :: _, [], _, _, h, _ => by simp [DataW.TrodAll] at h
theorem a0J {W : World} {sp : Nat → Bool} {b : Nat} {hd : Bool} : ∀ {ts : List Nat} {vs : List Value} {dd : List (DataW H)} {ps : List MemPlace}, DataW.TrodAll enc P W b sp hd ts vs dd ps → dd.length = ts.length
 | [], [], [], _, _ => rfl
 | t :: ts, v :: vs, d :: dd, ps, h => by
  obtain ⟨p, q, _, h2, _⟩ := h
  simp [a0J h2]
 | [], _ :: _, _, _, h => by simp [DataW.TrodAll] at h
 | [], [], _ :: _, _, h => by simp [DataW.TrodAll] at h
 | _ :: _, [], _, _, h => by simp [DataW.TrodAll] at h
 | _ :: _, _ :: _, [], _, h => by simp [DataW.TrodAll] at h
theorem b3T {fresh : Bool} (hT : TyOK P T) (hC : Cl T) (hl : laidOutB P = true) {f : Nat} {fn : Func} {s : ChangeSpec} {tb : Nat} (hv : s.vars = []) (hs : ∀ dd : List (DataW H), dd.length = fn.params.toList.length → s.fn H dd = { results := [.lit (.bool true)], args := dd })
    (hrt : fn.resultTypes = #[tb]) (hb : P.underlying tb = some .bool) (ht : fn.params.toList.all (fun t => (T t).tag != 0 && P.readableRec t && decide (t < P.types.size)) = true)
    (hf : ∀ dss, ShAll T fn.params.toList dss → FnC P f (pks T fn.params.toList dss) (ob true))
    {W : World} (htab : tabOK W []) {r : Reach} {base : Nat} {args : Array Value} {ds gs : List (DataW H)} {before : List MemPlace}
    (hval : ∀ (j : Nat) (t : Nat) (v : Value), fn.params[j]? = some t → args[j]? = some v → Value.okWide P W r base t v) (hW : DataW.Whole enc P fn.params.toList s.vars false W args.toList ds gs before) :
    Calls P f args W fun e W' => ∃ v, e = .returned v ∧ s.post enc P fn false fresh false false W args v W' := by
 have hW' := hW
 obtain ⟨p, q, hA, hV, rfl, _, _⟩ := hW
 rw [hv] at hV
 obtain ⟨rfl, rfl⟩ := ChangeShapes.trodVars_none hV
 have ht' : ∀ t ∈ fn.params.toList, (T t).tag ≠ 0 ∧ P.readableRec t = true ∧ t < P.types.size := fun t h => by
  have := List.all_eq_true.1 ht t h
  simpa [and_assoc] using this
 obtain ⟨dss, h1, h2⟩ := a3u hT hC (fun t h => (ht' t h).1) (fun j t v a b => hval j t v (by simpa using a) (by simpa using b)) hA
 have hc := (hf dss h1).calls (V0 W) W args.toList htab (b5w W) h2
 rw [Array.toArray_toList] at hc
 refine hc.mono fun e W' ⟨y, he, hd⟩ => ⟨y, he, ?_⟩
 have hy : y = .bool true := by
  obtain ⟨V', S, _, _, _, ⟨l, hs, hr⟩, _⟩ := hd.out
  obtain ⟨Ss, r1, r2, r3, r4⟩ := hr
  have hl : l = [y] := hs
  subst hl
  obtain ⟨_, T', hL⟩ := r4 0 (.d (bv true)) y _ rfl rfl (List.getElem?_eq_getElem (by rw [r2]; simp [SV.all]))
  cases hL; rfl
 subst hy
 have hbel := hd.below
 have hlen := a0J hA
 have e : s.fn H (ds ++ []) = { results := [.lit (.bool true)], args := ds } := by rw [List.append_nil]; exact hs ds hlen
 refine ⟨ds, [], _, [], p, [], hW', ?_, ?_, ?_, hbel.frame _, fun h => by cases h⟩
 ·rw [e, hrt]
  exact ChangeShapes.trodAll_mk1 (shut_bool hb true)
 ·rw [e]
  exact wD hl hbel (fun t h => (ht' t h).2) hA (fun x hx => hW'.lt x (List.mem_append.2 (.inl hx)))
 ·rw [e, hv]; rfl
end
end Go.Sx
end
section
set_option linter.all false
namespace Go.Proofs.YtgpoopjfkplilaaGreatDoor
open Go Go.Sx Go.RowKit
theorem b8s : Cl tt := Cl.of_list (by kernel_rfl)
theorem own : ownKnob Tryz.prog.godebug = none := by kernel_rfl
theorem b3U : laidOutB Tryz.prog = true := by kernel_rfl
end Go.Proofs.YtgpoopjfkplilaaGreatDoor
end
end
