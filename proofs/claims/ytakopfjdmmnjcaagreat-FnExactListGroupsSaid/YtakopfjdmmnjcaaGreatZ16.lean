/- Joined texts. -/
import Derived.Test.YtakopfjdmmnjcaaGreatZ11
import Derived.Test.YtakopfjdmmnjcaaGreatZ14
import Derived.Test.YtakopfjdmmnjcaaGreatZ06
import Derived.Test.YtakopfjdmmnjcaaGreatZ04
import Derived.Sort.LotA
import Derived.Sort.WalkA
set_option linter.all false
section
namespace Go.Proofs.YtakopfjdmmnjcaaGreat.Opq
open Go Go.Sx Go.RowKit Go.Proofs
class NyO (P : Prop) (Q : outParam Prop) : Prop where
 ny : Q → P
instance (priority := low) {P Q : Prop} [i : Ny P Q] : NyO P Q := ⟨i.ny⟩
theorem nY {P Q : Prop} [i : NyO P Q] (h : Q) : P := i.ny h
noncomputable def ttl : List Ty := [.bad,
 .bad,
 ⟨3, 1, 8, [.d (.v (.int .i64 0))], [], 0, .i64⟩,
 ⟨3, 1, 8, [.d (.v (.int .i64 0))], [], 0, .i64⟩,
 ⟨4, 1, 1, [.d (.v (.bool false))], [], 0, .i64⟩,
 ⟨3, 1, 1, [.d (.v (.int .u8 0))], [], 0, .u8⟩,
 ⟨3, 1, 1, [.d (.v (.int .u8 0))], [], 0, .u8⟩,
 ⟨1, 4, 24, [.d (.v (.int .i64 0)), .d (.v (.int .i64 0)), .d (.v (.bool false)), .d (.v (.int .u8 0))], [(0, 2), (1, 3), (2, 4), (3, 6)], 0, .i64⟩,
 ⟨1, 4, 24, [.d (.v (.int .i64 0)), .d (.v (.int .i64 0)), .d (.v (.bool false)), .d (.v (.int .u8 0))], [(0, 2), (1, 3), (2, 4), (3, 6)], 0, .i64⟩,
 ⟨5, 1, 16, [.d (.v (.string ⟨#[]⟩))], [], 0, .i64⟩,
 ⟨5, 1, 16, [.d (.v (.string ⟨#[]⟩))], [], 0, .i64⟩,
 ⟨5, 1, 16, [.d (.v (.string ⟨#[]⟩))], [], 0, .i64⟩,
 .bad,
 .bad,
 .bad,
 .bad,
 .bad,
 .bad,
 .bad,
 .bad,
 .bad,
 .bad,
 ⟨2, 1, 24, [.z], [], 5, .i64⟩,
 .bad,
 ⟨2, 1, 24, [.z], [], 113, .i64⟩,
 ⟨2, 1, 24, [.z], [], 69, .i64⟩,
 ⟨1, 3, 56, [.z, .z, .d (.v (.int .i64 0))], [(0, 24), (1, 25), (2, 3)], 0, .i64⟩,
 ⟨1, 3, 56, [.z, .z, .d (.v (.int .i64 0))], [(0, 24), (1, 25), (2, 3)], 0, .i64⟩,
 ⟨2, 1, 24, [.z], [], 38, .i64⟩,
 .bad,
 .bad,
 ⟨2, 1, 24, [.z], [(0, 0)], 3, .i64⟩,
 .bad,
 .bad,
 .bad,
 .bad,
 ⟨2, 1, 24, [.z], [], 104, .i64⟩,
 ⟨1, 2, 40, [.d (.v (.string ⟨#[]⟩)), .z], [(0, 9), (1, 36)], 0, .i64⟩,
 ⟨1, 2, 40, [.d (.v (.string ⟨#[]⟩)), .z], [(0, 9), (1, 36)], 0, .i64⟩,
 ⟨2, 1, 24, [.z], [], 9, .i64⟩,
 .bad,
 ⟨2, 1, 24, [.z], [], 75, .i64⟩,
 .bad,
 .bad,
 ⟨2, 1, 24, [.z], [], 128, .i64⟩,
 ⟨2, 1, 24, [.z], [], 132, .i64⟩,
 ⟨1, 3, 56, [.z, .z, .d (.v (.int .i64 0))], [(0, 44), (1, 45), (2, 3)], 0, .i64⟩,
 ⟨1, 3, 56, [.z, .z, .d (.v (.int .i64 0))], [(0, 44), (1, 45), (2, 3)], 0, .i64⟩,
 ⟨2, 1, 24, [.z], [], 84, .i64⟩,
 .bad,
 .bad,
 .bad,
 .bad,
 .bad,
 .bad,
 .bad,
 .bad,
 .bad,
 .bad,
 .bad,
 .bad,
 .bad,
 .bad,
 .bad,
 .bad,
 .bad,
 .bad,
 ⟨2, 1, 24, [.z], [], 110, .i64⟩,
 ⟨1, 5, 56, [.d (.v (.int .i64 0)), .d (.v (.int .i64 0)), .d (.v (.bool false)), .d (.v (.int .i64 0)), .z], [(0, 3), (1, 3), (2, 4), (3, 3), (4, 67)], 0, .i64⟩,
 ⟨1, 5, 56, [.d (.v (.int .i64 0)), .d (.v (.int .i64 0)), .d (.v (.bool false)), .d (.v (.int .i64 0)), .z], [(0, 3), (1, 3), (2, 4), (3, 3), (4, 67)], 0, .i64⟩,
 .bad,
 .bad,
 ⟨1, 3, 32, [.d (.v (.int .i64 0)), .d (.v (.int .i64 0)), .d (.v (.string ⟨#[]⟩))], [(0, 3), (1, 3), (2, 9)], 0, .i64⟩,
 ⟨1, 3, 32, [.d (.v (.int .i64 0)), .d (.v (.int .i64 0)), .d (.v (.string ⟨#[]⟩))], [(0, 3), (1, 3), (2, 9)], 0, .i64⟩,
 ⟨1, 4, 56, [.d (.v (.int .i64 0)), .d (.v (.int .i64 0)), .d (.v (.string ⟨#[]⟩)), .d (.v (.slice none 0 0))], [(0, 73), (3, 31)], 0, .i64⟩,
 ⟨1, 4, 56, [.d (.v (.int .i64 0)), .d (.v (.int .i64 0)), .d (.v (.string ⟨#[]⟩)), .d (.v (.slice none 0 0))], [(0, 73), (3, 31)], 0, .i64⟩,
 .bad,
 .bad,
 .bad,
 .bad,
 .bad,
 .bad,
 ⟨2, 1, 24, [.z], [], 175, .i64⟩,
 ⟨1, 2, 40, [.d (.v (.string ⟨#[]⟩)), .z], [(0, 9), (1, 82)], 0, .i64⟩,
 ⟨1, 2, 40, [.d (.v (.string ⟨#[]⟩)), .z], [(0, 9), (1, 82)], 0, .i64⟩,
 .bad,
 .bad,
 .bad,
 .bad,
 .bad,
 .bad,
 .bad,
 .bad,
 .bad,
 .bad,
 .bad,
 ⟨1, 3, 40, [.z, .d (.v (.int .i64 0)), .d (.v (.int .i64 0))], [(0, 22), (1, 3), (2, 3)], 0, .i64⟩,
 ⟨1, 3, 40, [.z, .d (.v (.int .i64 0)), .d (.v (.int .i64 0))], [(0, 22), (1, 3), (2, 3)], 0, .i64⟩,
 .bad,
 .bad,
 .bad,
 .bad,
 .bad,
 ⟨1, 7, 72, [.d (.v (.int .i64 0)), .d (.v (.int .i64 0)), .d (.v (.int .i64 0)), .d (.v (.string ⟨#[]⟩)), .d (.v (.int .i64 0)), .d (.v (.int .i64 0)), .d (.v (.string ⟨#[]⟩))], [(0, 3), (1, 3), (2, 3), (3, 9), (4, 73)], 0, .i64⟩,
 ⟨1, 7, 72, [.d (.v (.int .i64 0)), .d (.v (.int .i64 0)), .d (.v (.int .i64 0)), .d (.v (.string ⟨#[]⟩)), .d (.v (.int .i64 0)), .d (.v (.int .i64 0)), .d (.v (.string ⟨#[]⟩))], [(0, 3), (1, 3), (2, 3), (3, 9), (4, 73)], 0, .i64⟩,
 .bad,
 .bad,
 .bad,
 .bad,
 ⟨1, 4, 48, [.d (.v (.string ⟨#[]⟩)), .d (.v (.int .i64 0)), .d (.v (.int .i64 0)), .d (.v (.string ⟨#[]⟩))], [(0, 9), (1, 73)], 0, .i64⟩,
 ⟨1, 4, 48, [.d (.v (.string ⟨#[]⟩)), .d (.v (.int .i64 0)), .d (.v (.int .i64 0)), .d (.v (.string ⟨#[]⟩))], [(0, 9), (1, 73)], 0, .i64⟩,
 .bad,
 ⟨1, 2, 24, [.d (.v (.string ⟨#[]⟩)), .d (.v (.int .i64 0))], [(0, 9), (1, 3)], 0, .i64⟩,
 ⟨1, 2, 24, [.d (.v (.string ⟨#[]⟩)), .d (.v (.int .i64 0))], [(0, 9), (1, 3)], 0, .i64⟩,
 .bad,
 .bad,
 .bad,
 .bad,
 .bad,
 .bad,
 .bad,
 .bad,
 .bad,
 ⟨2, 1, 24, [.z], [], 169, .i64⟩,
 .bad,
 .bad,
 .bad,
 .bad,
 ⟨1, 2, 24, [.d (.v (.string ⟨#[]⟩)), .d (.v (.int .i64 0))], [(0, 9), (1, 3)], 0, .i64⟩,
 .bad,
 ⟨2, 1, 24, [.z], [], 197, .i64⟩,
 ⟨1, 5, 56, [.d (.v (.int .i64 0)), .d (.v (.int .i64 0)), .d (.v (.bool false)), .d (.v (.int .i64 0)), .z], [(0, 3), (1, 3), (2, 4), (3, 3), (4, 130)], 0, .i64⟩,
 ⟨1, 5, 56, [.d (.v (.int .i64 0)), .d (.v (.int .i64 0)), .d (.v (.bool false)), .d (.v (.int .i64 0)), .z], [(0, 3), (1, 3), (2, 4), (3, 3), (4, 130)], 0, .i64⟩,
 .bad,
 .bad,
 .bad,
 .bad,
 .bad,
 .bad,
 .bad,
 .bad,
 .bad,
 .bad,
 .bad,
 .bad,
 .bad,
 .bad,
 .bad,
 .bad,
 .bad,
 .bad,
 .bad,
 .bad,
 .bad,
 .bad,
 .bad,
 .bad,
 .bad,
 .bad,
 .bad,
 .bad,
 .bad,
 .bad,
 .bad,
 .bad,
 .bad,
 .bad,
 .bad,
 ⟨1, 2, 40, [.d (.v (.string ⟨#[]⟩)), .z], [(0, 9), (1, 31)], 0, .i64⟩,
 ⟨1, 2, 40, [.d (.v (.string ⟨#[]⟩)), .z], [(0, 9), (1, 31)], 0, .i64⟩,
 .bad,
 .bad,
 .bad,
 ⟨1, 3, 32, [.d (.v (.int .i64 0)), .d (.v (.int .i64 0)), .d (.v (.string ⟨#[]⟩))], [(0, 3), (1, 3), (2, 9)], 0, .i64⟩,
 ⟨1, 7, 72, [.d (.v (.int .i64 0)), .d (.v (.int .i64 0)), .d (.v (.int .i64 0)), .d (.v (.string ⟨#[]⟩)), .d (.v (.int .i64 0)), .d (.v (.int .i64 0)), .d (.v (.string ⟨#[]⟩))], [(0, 3), (1, 3), (2, 3), (3, 9), (4, 173)], 0, .i64⟩,
 ⟨1, 7, 72, [.d (.v (.int .i64 0)), .d (.v (.int .i64 0)), .d (.v (.int .i64 0)), .d (.v (.string ⟨#[]⟩)), .d (.v (.int .i64 0)), .d (.v (.int .i64 0)), .d (.v (.string ⟨#[]⟩))], [(0, 3), (1, 3), (2, 3), (3, 9), (4, 173)], 0, .i64⟩,
 .bad,
 .bad,
 .bad,
 .bad,
 .bad,
 .bad,
 .bad,
 .bad,
 .bad,
 .bad,
 .bad,
 .bad,
 .bad,
 .bad,
 .bad,
 .bad,
 .bad,
 .bad,
 .bad,
 .bad,
 ⟨1, 4, 48, [.d (.v (.string ⟨#[]⟩)), .d (.v (.int .i64 0)), .d (.v (.int .i64 0)), .d (.v (.string ⟨#[]⟩))], [(0, 9), (1, 173)], 0, .i64⟩,
 ⟨1, 4, 48, [.d (.v (.string ⟨#[]⟩)), .d (.v (.int .i64 0)), .d (.v (.int .i64 0)), .d (.v (.string ⟨#[]⟩))], [(0, 9), (1, 173)], 0, .i64⟩,
 .bad,
 .bad,
 .bad,
 .bad,
 .bad,
 .bad,
 .bad,
 .bad,
 .bad,
 .bad,
 .bad,
 .bad,
 .bad,
 .bad,
 .bad,
 .bad,
 .bad,
 ⟨2, 1, 24, [.z], [], 4, .i64⟩,
 .bad,
 .bad,
 .bad,
 .bad,
 .bad,
 .bad,
 .bad,
 .bad,
 .bad,
 .bad,
 .bad,
 .bad,
 .bad,
 .bad,
 ⟨3, 1, 8, [.d (.v (.int .i64 0))], [], 0, .i64⟩,
 .bad,
 .bad,
 .bad,
 .bad,
 .bad,
 .bad,
 .bad,
 .bad,
 .bad,
 .bad,
 .bad,
 .bad,
 .bad,
 .bad,
 .bad,
 .bad,
 .bad,
 .bad,
 .bad,
 .bad,
 .bad,
 .bad,
 .bad,
 .bad,
 .bad,
 .bad,
 ⟨3, 1, 1, [.d (.v (.int .u8 0))], [], 0, .u8⟩,
 ⟨3, 1, 1, [.d (.v (.int .u8 0))], [], 0, .u8⟩,
 .bad,
 .bad,
 .bad,
 .bad,
 .bad,
 .bad,
 .bad]
noncomputable def tt : Nat → Ty := fun t => ttl.getD t .bad
theorem ttOK : TyOK Tryz.prog tt := TyOK.of_list (by kernel_rfl)
theorem tts : tt 2 = ⟨3, 1, 8, [.d (.v (.int .i64 0))], [], 0, .i64⟩ ∧ tt 3 = ⟨3, 1, 8, [.d (.v (.int .i64 0))], [], 0, .i64⟩ ∧ tt 4 = ⟨4, 1, 1, [.d (.v (.bool false))], [], 0, .i64⟩ ∧ tt 5 = ⟨3, 1, 1, [.d (.v (.int .u8 0))], [], 0, .u8⟩ ∧ tt 6 = ⟨3, 1, 1, [.d (.v (.int .u8 0))], [], 0, .u8⟩ ∧ tt 7 = ⟨1, 4, 24, [.d (.v (.int .i64 0)), .d (.v (.int .i64 0)), .d (.v (.bool false)), .d (.v (.int .u8 0))], [(0, 2), (1, 3), (2, 4), (3, 6)], 0, .i64⟩ ∧ tt 8 = ⟨1, 4, 24, [.d (.v (.int .i64 0)), .d (.v (.int .i64 0)), .d (.v (.bool false)), .d (.v (.int .u8 0))], [(0, 2), (1, 3), (2, 4), (3, 6)], 0, .i64⟩ ∧ tt 9 = ⟨5, 1, 16, [.d (.v (.string ⟨#[]⟩))], [], 0, .i64⟩ ∧ tt 10 = ⟨5, 1, 16, [.d (.v (.string ⟨#[]⟩))], [], 0, .i64⟩ ∧ tt 11 = ⟨5, 1, 16, [.d (.v (.string ⟨#[]⟩))], [], 0, .i64⟩ ∧ tt 22 = ⟨2, 1, 24, [.z], [], 5, .i64⟩ ∧ tt 24 = ⟨2, 1, 24, [.z], [], 113, .i64⟩ ∧ tt 25 = ⟨2, 1, 24, [.z], [], 69, .i64⟩ ∧ tt 26 = ⟨1, 3, 56, [.z, .z, .d (.v (.int .i64 0))], [(0, 24), (1, 25), (2, 3)], 0, .i64⟩ ∧ tt 27 = ⟨1, 3, 56, [.z, .z, .d (.v (.int .i64 0))], [(0, 24), (1, 25), (2, 3)], 0, .i64⟩ ∧ tt 28 = ⟨2, 1, 24, [.z], [], 38, .i64⟩ ∧ tt 31 = ⟨2, 1, 24, [.z], [(0, 0)], 3, .i64⟩ ∧ tt 36 = ⟨2, 1, 24, [.z], [], 104, .i64⟩ ∧ tt 37 = ⟨1, 2, 40, [.d (.v (.string ⟨#[]⟩)), .z], [(0, 9), (1, 36)], 0, .i64⟩ ∧ tt 38 = ⟨1, 2, 40, [.d (.v (.string ⟨#[]⟩)), .z], [(0, 9), (1, 36)], 0, .i64⟩ ∧ tt 39 = ⟨2, 1, 24, [.z], [], 9, .i64⟩ ∧ tt 41 = ⟨2, 1, 24, [.z], [], 75, .i64⟩ ∧ tt 44 = ⟨2, 1, 24, [.z], [], 128, .i64⟩ ∧ tt 45 = ⟨2, 1, 24, [.z], [], 132, .i64⟩ ∧ tt 46 = ⟨1, 3, 56, [.z, .z, .d (.v (.int .i64 0))], [(0, 44), (1, 45), (2, 3)], 0, .i64⟩ ∧ tt 47 = ⟨1, 3, 56, [.z, .z, .d (.v (.int .i64 0))], [(0, 44), (1, 45), (2, 3)], 0, .i64⟩ ∧ tt 48 = ⟨2, 1, 24, [.z], [], 84, .i64⟩ ∧ tt 67 = ⟨2, 1, 24, [.z], [], 110, .i64⟩ ∧ tt 68 = ⟨1, 5, 56, [.d (.v (.int .i64 0)), .d (.v (.int .i64 0)), .d (.v (.bool false)), .d (.v (.int .i64 0)), .z], [(0, 3), (1, 3), (2, 4), (3, 3), (4, 67)], 0, .i64⟩ ∧ tt 69 = ⟨1, 5, 56, [.d (.v (.int .i64 0)), .d (.v (.int .i64 0)), .d (.v (.bool false)), .d (.v (.int .i64 0)), .z], [(0, 3), (1, 3), (2, 4), (3, 3), (4, 67)], 0, .i64⟩ ∧ tt 72 = ⟨1, 3, 32, [.d (.v (.int .i64 0)), .d (.v (.int .i64 0)), .d (.v (.string ⟨#[]⟩))], [(0, 3), (1, 3), (2, 9)], 0, .i64⟩ ∧ tt 73 = ⟨1, 3, 32, [.d (.v (.int .i64 0)), .d (.v (.int .i64 0)), .d (.v (.string ⟨#[]⟩))], [(0, 3), (1, 3), (2, 9)], 0, .i64⟩ ∧ tt 74 = ⟨1, 4, 56, [.d (.v (.int .i64 0)), .d (.v (.int .i64 0)), .d (.v (.string ⟨#[]⟩)), .d (.v (.slice none 0 0))], [(0, 73), (3, 31)], 0, .i64⟩ ∧ tt 75 = ⟨1, 4, 56, [.d (.v (.int .i64 0)), .d (.v (.int .i64 0)), .d (.v (.string ⟨#[]⟩)), .d (.v (.slice none 0 0))], [(0, 73), (3, 31)], 0, .i64⟩ ∧ tt 82 = ⟨2, 1, 24, [.z], [], 175, .i64⟩ ∧ tt 83 = ⟨1, 2, 40, [.d (.v (.string ⟨#[]⟩)), .z], [(0, 9), (1, 82)], 0, .i64⟩ ∧ tt 84 = ⟨1, 2, 40, [.d (.v (.string ⟨#[]⟩)), .z], [(0, 9), (1, 82)], 0, .i64⟩ ∧ tt 96 = ⟨1, 3, 40, [.z, .d (.v (.int .i64 0)), .d (.v (.int .i64 0))], [(0, 22), (1, 3), (2, 3)], 0, .i64⟩ ∧ tt 97 = ⟨1, 3, 40, [.z, .d (.v (.int .i64 0)), .d (.v (.int .i64 0))], [(0, 22), (1, 3), (2, 3)], 0, .i64⟩ ∧ tt 103 = ⟨1, 7, 72, [.d (.v (.int .i64 0)), .d (.v (.int .i64 0)), .d (.v (.int .i64 0)), .d (.v (.string ⟨#[]⟩)), .d (.v (.int .i64 0)), .d (.v (.int .i64 0)), .d (.v (.string ⟨#[]⟩))], [(0, 3), (1, 3), (2, 3), (3, 9), (4, 73)], 0, .i64⟩ ∧ tt 104 = ⟨1, 7, 72, [.d (.v (.int .i64 0)), .d (.v (.int .i64 0)), .d (.v (.int .i64 0)), .d (.v (.string ⟨#[]⟩)), .d (.v (.int .i64 0)), .d (.v (.int .i64 0)), .d (.v (.string ⟨#[]⟩))], [(0, 3), (1, 3), (2, 3), (3, 9), (4, 73)], 0, .i64⟩ ∧ tt 109 = ⟨1, 4, 48, [.d (.v (.string ⟨#[]⟩)), .d (.v (.int .i64 0)), .d (.v (.int .i64 0)), .d (.v (.string ⟨#[]⟩))], [(0, 9), (1, 73)], 0, .i64⟩ ∧ tt 110 = ⟨1, 4, 48, [.d (.v (.string ⟨#[]⟩)), .d (.v (.int .i64 0)), .d (.v (.int .i64 0)), .d (.v (.string ⟨#[]⟩))], [(0, 9), (1, 73)], 0, .i64⟩ ∧ tt 112 = ⟨1, 2, 24, [.d (.v (.string ⟨#[]⟩)), .d (.v (.int .i64 0))], [(0, 9), (1, 3)], 0, .i64⟩ ∧ tt 113 = ⟨1, 2, 24, [.d (.v (.string ⟨#[]⟩)), .d (.v (.int .i64 0))], [(0, 9), (1, 3)], 0, .i64⟩ ∧ tt 123 = ⟨2, 1, 24, [.z], [], 169, .i64⟩ ∧ tt 128 = ⟨1, 2, 24, [.d (.v (.string ⟨#[]⟩)), .d (.v (.int .i64 0))], [(0, 9), (1, 3)], 0, .i64⟩ ∧ tt 130 = ⟨2, 1, 24, [.z], [], 197, .i64⟩ ∧ tt 131 = ⟨1, 5, 56, [.d (.v (.int .i64 0)), .d (.v (.int .i64 0)), .d (.v (.bool false)), .d (.v (.int .i64 0)), .z], [(0, 3), (1, 3), (2, 4), (3, 3), (4, 130)], 0, .i64⟩ ∧ tt 132 = ⟨1, 5, 56, [.d (.v (.int .i64 0)), .d (.v (.int .i64 0)), .d (.v (.bool false)), .d (.v (.int .i64 0)), .z], [(0, 3), (1, 3), (2, 4), (3, 3), (4, 130)], 0, .i64⟩ ∧ tt 168 = ⟨1, 2, 40, [.d (.v (.string ⟨#[]⟩)), .z], [(0, 9), (1, 31)], 0, .i64⟩ ∧ tt 169 = ⟨1, 2, 40, [.d (.v (.string ⟨#[]⟩)), .z], [(0, 9), (1, 31)], 0, .i64⟩ ∧ tt 173 = ⟨1, 3, 32, [.d (.v (.int .i64 0)), .d (.v (.int .i64 0)), .d (.v (.string ⟨#[]⟩))], [(0, 3), (1, 3), (2, 9)], 0, .i64⟩ ∧ tt 174 = ⟨1, 7, 72, [.d (.v (.int .i64 0)), .d (.v (.int .i64 0)), .d (.v (.int .i64 0)), .d (.v (.string ⟨#[]⟩)), .d (.v (.int .i64 0)), .d (.v (.int .i64 0)), .d (.v (.string ⟨#[]⟩))], [(0, 3), (1, 3), (2, 3), (3, 9), (4, 173)], 0, .i64⟩ ∧ tt 175 = ⟨1, 7, 72, [.d (.v (.int .i64 0)), .d (.v (.int .i64 0)), .d (.v (.int .i64 0)), .d (.v (.string ⟨#[]⟩)), .d (.v (.int .i64 0)), .d (.v (.int .i64 0)), .d (.v (.string ⟨#[]⟩))], [(0, 3), (1, 3), (2, 3), (3, 9), (4, 173)], 0, .i64⟩ ∧ tt 196 = ⟨1, 4, 48, [.d (.v (.string ⟨#[]⟩)), .d (.v (.int .i64 0)), .d (.v (.int .i64 0)), .d (.v (.string ⟨#[]⟩))], [(0, 9), (1, 173)], 0, .i64⟩ ∧ tt 197 = ⟨1, 4, 48, [.d (.v (.string ⟨#[]⟩)), .d (.v (.int .i64 0)), .d (.v (.int .i64 0)), .d (.v (.string ⟨#[]⟩))], [(0, 9), (1, 173)], 0, .i64⟩ ∧ tt 215 = ⟨2, 1, 24, [.z], [], 4, .i64⟩ ∧ tt 230 = ⟨3, 1, 8, [.d (.v (.int .i64 0))], [], 0, .i64⟩ ∧ tt 257 = ⟨3, 1, 1, [.d (.v (.int .u8 0))], [], 0, .u8⟩ ∧ tt 258 = ⟨3, 1, 1, [.d (.v (.int .u8 0))], [], 0, .u8⟩ :=
 ⟨rfl, rfl, rfl, rfl, rfl, rfl, rfl, rfl, rfl, rfl, rfl, rfl, rfl, rfl, rfl, rfl, rfl, rfl, rfl, rfl, rfl, rfl, rfl, rfl, rfl, rfl, rfl, rfl, rfl, rfl, rfl, rfl, rfl, rfl, rfl, rfl, rfl, rfl, rfl, rfl, rfl, rfl, rfl, rfl, rfl, rfl, rfl, rfl, rfl, rfl, rfl, rfl, rfl, rfl, rfl, rfl, rfl, rfl, rfl, rfl, rfl⟩
noncomputable def EV (C : Ctx) : Env := ⟨Tryz.prog, tt, C, eqk⟩
theorem EV_T (C : Ctx) : (EV C).T = tt := rfl
theorem EV_q (C : Ctx) : (EV C).eqk = eqk := rfl
attribute [go_sem] tts EV_T EV_q
theorem reg {C : Ctx} {id : Nat} {ops : List Oper} {F : Ex → St → Prop} {st : St} (h : vcRun (EV C) ops ops st (F .normal) ⟨⟩) : WP Tryz.prog C (.region id ops.toArray false) F st := a2Q (E := EV C) ttOK a2x h.out
instance (priority := high) nReg {C : Ctx} {id : Nat} {ops : List Oper} {F : Ex → St → Prop} {st : St} : NyO (WP Tryz.prog C (.region id ops.toArray false) F st) (vcRun (EV C) ops ops st (F .normal) ⟨⟩) := ⟨reg⟩
instance clT {C : Ctx} {f : Nat} {args args' : List SV} {res : SV} {st : St} {K : St → SV → Prop} : Cy Tryz.prog f args' res (CallT (EV C) f args st K ⟨⟩) (args.map (fE (aT st.h (dB args))) = args' ∧ args'.all bJ = true) (Nm (K ⟨st.t, aT st.h (dB args) ++ adH res.all⟩ (adS (aT st.h (dB args)).length res))) := ⟨fun h o k => ⟨CallS.frz (E := EV C) h o.1 o.2 k⟩⟩
instance clD {C : Ctx} {f : Nat} {args args' : List SV} {res : SV} {h : List HB} {k : SV → Prop} : Cy Tryz.prog f args' res (CallD (EV C) f args h k ⟨⟩) ((args.map (fE h) = args' ∧ args'.all bJ = true) ∧ res.all.all isD = true) (Nm (k res)) := ⟨fun hf o hk => CallD.of_fn (E := EV C) hf o.1.1 o.1.2 o.2 hk⟩
instance clG {C : Ctx} {f : Nat} {args args' : List SV} {res : SV} {h : List HB} {k : List HB → SV → Prop} : Cy Tryz.prog f args' res (CallG (EV C) f args h k ⟨⟩) (args.map (fE (aT h (dB args))) = args' ∧ args'.all bJ = true) (Nm (k (aT h (dB args) ++ adH res.all) (adS (aT h (dB args)).length res))) := ⟨fun hf o hk => CallG.frz (E := EV C) hf o.1 o.2 hk⟩
theorem regd {C : Ctx} {id : Nat} {ops : List Oper} {F : Ex → St → Prop} {st : St} (hB : Region.lexB .any ops.toArray = true) (h : vcDRun (EV C) ops ops st (F .normal) ⟨⟩) : WP Tryz.prog C (.region id ops.toArray true) F st := a8o (E := EV C) ttOK a2x fol hB h.out
theorem ent {f : Nat} {fn : Func} {c : Code} {rs : List ResultVar} {args : List SV} {res : SV} (hf : Tryz.prog.funcs[f]? = some fn) (hb : fn.body = some c) (hcall : ∀ x w, (callFunc f x).run Tryz.prog w = .ok (.enter f x) w) (hres : fn.results = rs.toArray)
    (h : ∀ C : Ctx, WP Tryz.prog C c (bV Tryz.prog C [] (a6Q (EV C) rs res)) (st0 args fn.ntmps)) : FnC Tryz.prog f args res := FnC.of_wp (eqk := eqk) ttOK hf hb hcall hres fun C _ => h C
theorem caldo {C : Ctx} {f : Nat} {args args' : List SV} {res : SV} {h : List HB} {k : SV → Prop} (hf : FnC Tryz.prog f args' res) (h1 : args.map (bO h) = args') (h2 : args'.all bJ = true) (h3 : res.all.all isD = true) (h4 : res.all.all gJ = true) (hk : k res) : CallD (EV C) f args h k ⟨⟩ := CallD.of_own (E := EV C) hf h1 h2 h3 h4 hk
theorem calo {C : Ctx} {f : Nat} {args args' : List SV} {res : SV} {st : St} {K : St → SV → Prop} (h : FnC Tryz.prog f args' res) (he : args.map (bO (aT st.h (dB args))) = args') (hfree : args'.all bJ = true) (hres : res.all.all gJ = true) (k : K ⟨st.t, aT st.h (dB args) ++ adG (fun _ => none) 0 res.all⟩ (adS (aT st.h (dB args)).length res)) : CallT (EV C) f args st K ⟨⟩ := ⟨CallS.lendF (E := EV C) h he hfree hres k⟩
theorem calm {C : Ctx} {f : Nat} {b : Bool} {cs outs : List At} {n res : Int} {a0 : SV} {st : St} {K : St → SV → Prop} (h : FnM Tryz.prog f b cs outs n res) (ha : isG a0 = some b) (hm : dS st.h a0.cells cs outs) (k : K ⟨st.t, mP st.h a0.cells outs⟩ (oi res)) : CallT (EV C) f [a0, oi n] st K ⟨⟩ := ⟨CallS.mark (E := EV C) h (a2W ha) hm k⟩
theorem caln {C : Ctx} {f : Nat} {ty0 ty1 sz' : Nat} {sub0 sub1 : List (List D)} {n res : Int} {id sz i fo : Nat} {st : St} {K : St → SV → Prop} (h : FnM Tryz.prog f false [.w ty0 sz' sub0] [.w ty1 sz' sub1] n res) (ok : wC st.h id sz i fo sz' sub0) (k : K ⟨st.t, a1o st.h id i fo sub1⟩ (oi res)) : CallT (EV C) f [.o (.n id sz i fo), oi n] st K ⟨⟩ := ⟨CallS.partC (E := EV C) h ok k⟩
theorem cali {C : Ctx} {f ty sz id : Nat} {rows rows' : List (List D)} {args' rest : List SV} {st : St} {K : St → SV → Prop} (h : FnI Tryz.prog f ty sz rows args' false rows') (hid : dL (aT st.h (dB rest)) id = .row ty sz rows true) (he : rest.map (fE (aT st.h (dB rest))) = args') (hfree : args'.all bJ = true) (k : K ⟨st.t.map (uZ id), eQ ((aT st.h (dB rest)).map (nQ id)) id (.row ty sz rows' true)⟩ (.o (.s id))) : CallT (EV C) f (.o (.s id) :: rest) st K ⟨⟩ := ⟨CallS.give (E := EV C) h hid he hfree (by simpa using k)⟩
theorem calj {C : Ctx} {f ty sz id : Nat} {rows rows' : List (List D)} {args' rest : List SV} {st : St} {K : St → SV → Prop} (h : FnI Tryz.prog f ty sz rows args' true rows') (hid : dL (aT st.h (dB rest)) id = .row ty sz rows true) (he : rest.map (fE (aT st.h (dB rest))) = args') (hfree : args'.all bJ = true) (k : K ⟨st.t, eQ (aT st.h (dB rest)) id (.row ty sz rows' true)⟩ (.t [])) : CallT (EV C) f (.o (.s id) :: rest) st K ⟨⟩ := ⟨CallS.give (E := EV C) h hid he hfree (by simpa using k)⟩
theorem cale {C : Ctx} {f : Nat} {args args' : List SV} {res : SV} {st : St} {K : St → SV → Prop} (h : FnC Tryz.prog f args' res) (he : args.map (bO st.h) = args') (hfree : args'.all bJ = true) (hres : res.all.all gJ = true) (k : K ⟨st.t, st.h ++ adG (fun _ => none) 0 res.all⟩ (adS st.h.length res)) : CallT (EV C) f args st K ⟨⟩ := ⟨CallS.lend (E := EV C) h he hfree hres k⟩
theorem entm {f : Nat} {fn : Func} {c : Code} {rs : List ResultVar} {b : Bool} {cs outs : List At} {n res : Int} (hf : Tryz.prog.funcs[f]? = some fn) (hb : fn.body = some c) (hcall : ∀ x w, (callFunc f x).run Tryz.prog w = .ok (.enter f x) w) (hres : fn.results = rs.toArray) (hone : b = false → cs.length = 1) (hsh : shp cs outs)
    (h : ∀ (C : Ctx) (tg : Nat → Option (Value × List Nat × List Value)), WP Tryz.prog C c (bV Tryz.prog C [] (b3O (EV C) rs res (adG tg 0 outs))) (stM tg b cs n fn.ntmps)) : FnM Tryz.prog f b cs outs n res := FnM.of_wp (eqk := eqk) ttOK hf hb hcall hres hone hsh h
theorem calr {C : Ctx} {f : Nat} {args args' : List SV} {res : SV} {st : St} {K : St → SV → Prop} (h : FnC Tryz.prog f args' res) (he : args.map (bO st.h) = args') (hfree : args'.all bJ = true) (hres : res.all.all gJ = true) (k : K ⟨st.t, st.h ++ adH res.all⟩ (adS st.h.length res)) : CallT (EV C) f args st K ⟨⟩ := ⟨CallS.lendW (E := EV C) h he hfree hres k⟩
theorem rS {C : Ctx} {id : Nat} {ops l m : List Oper} {F : Ex → St → Prop} {st : St} (ps ds : List Nat) (hl : rdX ds ops = l) (hm : a1z ops = m) (hok : (a3i ops ps ds && a5w ps ops && ps.all fun i => decide (i < ops.length)) = true) (hb : st.okB = true) (h : vcGRun (EV C) ds ops m st (fun st1 => vcStT (EV C) ops l ds ps ⟨st1.t, st.h⟩ (F .normal) ⟨⟩) ⟨⟩) : WP Tryz.prog C (.region id ops.toArray true) F st := by
 subst hl hm
 have e : (fun st1 : St => vcStT (EV C) ops (rdX ds ops) ds ps ⟨st1.t, st.h⟩ (F .normal) ⟨⟩) = (fun st1 => vB (EV C) ops ds ps ⟨st1.t, st.h⟩ (F .normal)) := funext fun s => propext ⟨fun h => h.out rfl, fun h => ⟨fun _ => h⟩⟩
 rw [e] at h
 simp only [Bool.and_eq_true] at hok
 exact a3k (E := EV C) ttOK a2x fol ps ds hok.1.1 hok.1.2 hok.2 hb h.out
theorem cGo {C : Ctx} {f : Nat} {args args' : List SV} {res : SV} {h : List HB} {k : List HB → SV → Prop} (hf : FnC Tryz.prog f args' res) (he : args.map (bO h) = args') (hfree : args'.all bJ = true) (hres : res.all.all gJ = true) (hk : k (h ++ adG (fun _ => none) 0 res.all) (adS h.length res)) : CallG (EV C) f args h k ⟨⟩ := CallG.lend (E := EV C) hf he hfree hres hk
theorem cGr {C : Ctx} {f : Nat} {args args' : List SV} {res : SV} {h : List HB} {k : List HB → SV → Prop} (hf : FnC Tryz.prog f args' res) (he : args.map (bO h) = args') (hfree : args'.all bJ = true) (hres : res.all.all gJ = true) (hk : k (h ++ adH res.all) (adS h.length res)) : CallG (EV C) f args h k ⟨⟩ := CallG.lendW (E := EV C) hf he hfree hres hk
theorem cDr {C : Ctx} {f ty sz : Nat} {rows : List (List D)} {args args' : List SV} {h : List HB} {k : SV → Prop} (hf : FnC Tryz.prog f args' (.o (.w ty sz rows))) (h1 : args.map (bO h) = args') (h2 : args'.all bJ = true) (h3 : gP rows = true) (hk : k (.o (.d (.sl rows)))) : CallD (EV C) f args h k ⟨⟩ := CallD.of_lend (E := EV C) hf h1 h2 h3 hk
theorem vO {C : Ctx} {f : Nat} {args args' : List SV} {res : SV} {st : St} {K : St → SV → Prop} (h : FnC Tryz.prog f args' res) (k : Nm (K ⟨st.t, aT st.h (dB args) ++ adG (fun _ => none) 0 res.all⟩ (adS (aT st.h (dB args)).length res))) (he : args.map (bO (aT st.h (dB args))) = args' := by simp only [go_sem, qH] <;> fail) (hfree : args'.all bJ = true := by simp only [go_sem, qH] <;> fail) (hres : res.all.all gJ = true := by simp only [go_sem, qH] <;> fail) : CallT (EV C) f args st K ⟨⟩ := calo h he hfree hres k
theorem vQ {C : Ctx} {f : Nat} {args args' : List SV} {res : SV} {h : List HB} {k : SV → Prop} (hf : FnC Tryz.prog f args' res) (hk : Nm (k res)) (h1 : args.map (bO h) = args' := by simp only [go_sem, qH] <;> fail) (h2 : args'.all bJ = true := by simp only [go_sem, qH] <;> fail) (h3 : res.all.all isD = true := by simp only [go_sem, qH] <;> fail) (h4 : res.all.all gJ = true := by simp only [go_sem, qH] <;> fail) : CallD (EV C) f args h k ⟨⟩ := caldo hf h1 h2 h3 h4 hk
theorem vM {C : Ctx} {f : Nat} {b : Bool} {cs outs : List At} {n res : Int} {a0 : SV} {st : St} {K : St → SV → Prop} (h : FnM Tryz.prog f b cs outs n res) (k : Nm (K ⟨st.t, mP st.h a0.cells outs⟩ (oi res))) (ha : isG a0 = some b := by simp only [go_sem] <;> fail) (hm : dS st.h a0.cells cs outs := by simp only [go_sem, qH] <;> fail) : CallT (EV C) f [a0, oi n] st K ⟨⟩ := calm h ha hm k
theorem vN {C : Ctx} {f : Nat} {ty0 ty1 sz' : Nat} {sub0 sub1 : List (List D)} {n res : Int} {id sz i fo : Nat} {st : St} {K : St → SV → Prop} (h : FnM Tryz.prog f false [.w ty0 sz' sub0] [.w ty1 sz' sub1] n res) (k : Nm (K ⟨st.t, a1o st.h id i fo sub1⟩ (oi res))) (ok : wC st.h id sz i fo sz' sub0 := by simp only [go_sem, qH] <;> fail) : CallT (EV C) f [.o (.n id sz i fo), oi n] st K ⟨⟩ := caln h ok k
theorem vI {C : Ctx} {f ty sz id : Nat} {rows rows' : List (List D)} {args' rest : List SV} {st : St} {K : St → SV → Prop} (h : FnI Tryz.prog f ty sz rows args' false rows') (k : Nm (K ⟨st.t.map (uZ id), eQ ((aT st.h (dB rest)).map (nQ id)) id (.row ty sz rows' true)⟩ (.o (.s id)))) (hid : dL (aT st.h (dB rest)) id = .row ty sz rows true := by simp only [go_sem, qH] <;> fail) (he : rest.map (fE (aT st.h (dB rest))) = args' := by simp only [go_sem, qH] <;> fail) (hfree : args'.all bJ = true := by simp only [go_sem, qH] <;> fail) : CallT (EV C) f (.o (.s id) :: rest) st K ⟨⟩ := cali h hid he hfree k
theorem vJ {C : Ctx} {f ty sz id : Nat} {rows rows' : List (List D)} {args' rest : List SV} {st : St} {K : St → SV → Prop} (h : FnI Tryz.prog f ty sz rows args' true rows') (k : Nm (K ⟨st.t, eQ (aT st.h (dB rest)) id (.row ty sz rows' true)⟩ (.t []))) (hid : dL (aT st.h (dB rest)) id = .row ty sz rows true := by simp only [go_sem, qH] <;> fail) (he : rest.map (fE (aT st.h (dB rest))) = args' := by simp only [go_sem, qH] <;> fail) (hfree : args'.all bJ = true := by simp only [go_sem, qH] <;> fail) : CallT (EV C) f (.o (.s id) :: rest) st K ⟨⟩ := calj h hid he hfree k
theorem vL {C : Ctx} {f : Nat} {args args' : List SV} {res : SV} {st : St} {K : St → SV → Prop} (h : FnC Tryz.prog f args' res) (k : Nm (K ⟨st.t, st.h ++ adG (fun _ => none) 0 res.all⟩ (adS st.h.length res))) (he : args.map (bO st.h) = args' := by simp only [go_sem, qH] <;> fail) (hfree : args'.all bJ = true := by simp only [go_sem, qH] <;> fail) (hres : res.all.all gJ = true := by simp only [go_sem, qH] <;> fail) : CallT (EV C) f args st K ⟨⟩ := cale h he hfree hres k
theorem vR {C : Ctx} {f : Nat} {args args' : List SV} {res : SV} {st : St} {K : St → SV → Prop} (h : FnC Tryz.prog f args' res) (k : Nm (K ⟨st.t, st.h ++ adH res.all⟩ (adS st.h.length res))) (he : args.map (bO st.h) = args' := by simp only [go_sem, qH] <;> fail) (hfree : args'.all bJ = true := by simp only [go_sem, qH] <;> fail) (hres : res.all.all gJ = true := by simp only [go_sem, qH] <;> fail) : CallT (EV C) f args st K ⟨⟩ := calr h he hfree hres k
theorem vG {C : Ctx} {f : Nat} {args args' : List SV} {res : SV} {h : List HB} {k : List HB → SV → Prop} (hf : FnC Tryz.prog f args' res) (hk : Nm (k (h ++ adH res.all) (adS h.length res))) (he : args.map (bO h) = args' := by simp only [go_sem, qH] <;> fail) (hfree : args'.all bJ = true := by simp only [go_sem, qH] <;> fail) (hres : res.all.all gJ = true := by simp only [go_sem, qH] <;> fail) : CallG (EV C) f args h k ⟨⟩ := cGr hf he hfree hres hk
theorem vD {C : Ctx} {f ty sz : Nat} {rows : List (List D)} {args args' : List SV} {h : List HB} {k : SV → Prop} (hf : FnC Tryz.prog f args' (.o (.w ty sz rows))) (hk : Nm (k (.o (.d (.sl rows))))) (h1 : args.map (bO h) = args' := by simp only [go_sem, qH] <;> fail) (h2 : args'.all bJ = true := by simp only [go_sem, qH] <;> fail) (h3 : gP rows = true := by simp only [go_sem, qH] <;> fail) : CallD (EV C) f args h k ⟨⟩ := cDr hf h1 h2 h3 hk
theorem rD {C : Ctx} {id : Nat} {ops : List Oper} {F : Ex → St → Prop} {st : St} (h : vcDRun (EV C) ops ops st (F .normal) ⟨⟩) (hB : Region.lexB .any ops.toArray = true := by kernel_rfl) : WP Tryz.prog C (.region id ops.toArray true) F st := regd hB h
theorem rT {C : Ctx} {id : Nat} {ops l m : List Oper} {F : Ex → St → Prop} {st : St} (ps : List Nat) (ds : List Nat) (h : vcGRun (EV C) ds ops m st (fun st1 => vcStT (EV C) ops l ds ps ⟨st1.t, st.h⟩ (F .normal) ⟨⟩) ⟨⟩) (hl : rdX ds ops = l := by simp only [go_sem]; rfl) (hm : a1z ops = m := by simp only [go_sem]; rfl) (hok : (a3i ops ps ds && a5w ps ops && ps.all fun i => decide (i < ops.length)) = true := by decide +kernel) (hb : st.okB = true := by simp only [go_sem] <;> fail) : WP Tryz.prog C (.region id ops.toArray true) F st := rS ps ds hl hm hok hb h
theorem rE {C : Ctx} {id : Nat} {ops L W : List Oper} {T : PO} {F : Ex → St → Prop} {st G : St} (ps ls l0 w0 : List Nat) (t : PT) (hl : dW ops l0 = L) (hw : dW ops w0 = W) (hp : lQ ops t = T)
    (hok : (okE ops ps ls && (l0.all fun i => !ps.contains i) && okN ops ps [] ps w0 t && xZ ops ps t [] ps && ps.all fun q => decide (q < ops.length)) = true) (hb : st.okB = true) (h : vcDRun (EV C) ops L st (fun st1 => vcTN (EV C) false ops W T st1 (zH G) ⟨⟩) ⟨⟩) (hG : Ok2 G) (hF : F .normal G) : WP Tryz.prog C (.region id ops.toArray true) F st := by
 subst hl hw hp
 simp only [Bool.and_eq_true] at hok
 refine b1F (E := EV C) ttOK a2x fol ps ls l0 w0 t hok.1.1.1.1 hok.1.1.1.2 hok.1.1.2 hok.1.2 hok.2 hb ?_ hG hF
 have e : (fun st1 => vcTN (EV C) false ops (dW ops w0) (lQ ops t) st1 (zH G) ⟨⟩) = (fun st1 => pK (EV C) st1 (dW ops w0) ∧ if t.isNil = true then zH G st1 else tL (EV C) false ops t st1 (zH G)) := funext fun s => propext (by
  constructor
  ·intro h; have := h.out; rwa [oO, iO] at this
  ·intro h; exact ⟨by rwa [oO, iO]⟩)
 rw [e] at h
 exact h.out
theorem rF {C : Ctx} {id : Nat} {ops L W : List Oper} {T : PO} {F : Ex → St → Prop} {st : St} (ps ls l0 w0 : List Nat) (t : PT) (hl : dW ops l0 = L) (hw : dW ops w0 = W) (hp : lQ ops t = T)
    (hok : (okE ops ps ls && (l0.all fun i => !ps.contains i) && okN ops ps [] ps w0 t && xZ ops ps t [] ps && ps.all fun q => decide (q < ops.length)) = true) (hb : st.okB = true) (h : vcDRun (EV C) ops L st (fun st1 => vcTN (EV C) true ops W T st1 (F .normal) ⟨⟩) ⟨⟩) : WP Tryz.prog C (.region id ops.toArray true) F st := by
 subst hl hw hp
 simp only [Bool.and_eq_true] at hok
 refine a8Q (E := EV C) ttOK a2x fol ps ls l0 w0 t hok.1.1.1.1 hok.1.1.1.2 hok.1.1.2 hok.1.2 hok.2 hb ?_
 have e : (fun st1 => vcTN (EV C) true ops (dW ops w0) (lQ ops t) st1 (F .normal) ⟨⟩) = (fun st1 => pK (EV C) st1 (dW ops w0) ∧ if t.isNil = true then F .normal st1 else tL (EV C) true ops t st1 (F .normal)) := funext fun s => propext (by
  constructor
  ·intro h; have := h.out; rwa [oO, iO] at this
  ·intro h; exact ⟨by rwa [oO, iO]⟩)
 rw [e] at h
 exact h.out
instance clH {C : Ctx} {f : Nat} {args args' : List SV} {res : SV} {h : List HB} {k : List HB → SV → Prop} : Cy Tryz.prog f args' res (CallH (EV C) f args h k ⟨⟩) (args.map (fE (aT h (dB args))) = args' ∧ args'.all bJ = true) (Nm (k (aT h (dB args) ++ adH res.all) (adS (aT h (dB args)).length res))) := ⟨fun hf o hk => CallH.det (CallG.frz (E := EV C) hf o.1 o.2 hk)⟩
theorem hO {C : Ctx} {f : Nat} {args args' : List SV} {res : SV} {h : List HB} {k : List HB → SV → Prop} (hf : FnC Tryz.prog f args' res) (hk : Nm (k (h ++ adG (fun _ => none) 0 res.all) (adS h.length res))) (he : args.map (bO h) = args' := by simp only [go_sem, qH] <;> fail) (hfree : args'.all bJ = true := by simp only [go_sem, qH] <;> fail) (hres : res.all.all gJ = true := by simp only [go_sem, qH] <;> fail) : CallH (EV C) f args h k ⟨⟩ := CallH.det (cGo hf he hfree hres hk)
theorem hR {C : Ctx} {f : Nat} {args args' : List SV} {res : SV} {h : List HB} {k : List HB → SV → Prop} (hf : FnC Tryz.prog f args' res) (hk : Nm (k (h ++ adH res.all) (adS h.length res))) (he : args.map (bO h) = args' := by simp only [go_sem, qH] <;> fail) (hfree : args'.all bJ = true := by simp only [go_sem, qH] <;> fail) (hres : res.all.all gJ = true := by simp only [go_sem, qH] <;> fail) : CallH (EV C) f args h k ⟨⟩ := CallH.det (cGr hf he hfree hres hk)
end Go.Proofs.YtakopfjdmmnjcaaGreat.Opq
end
section
set_option maxRecDepth 100000
namespace Go.Proofs.YtakopfjdmmnjcaaGreat
open Go Go.Sx Go.RowKit Go.Proofs Go.Sx.Clos
def c3 (l g : Bool) (r : Int) : Int := if l then -1 else if g then 1 else r
def cmpV (a b : TValue) : Int := c3 (decide (a.fKind < b.fKind)) (decide (b.fKind < a.fKind)) (c3 (decide (a.fInt < b.fInt)) (decide (b.fInt < a.fInt)) (c3 (dR a.fStr b.fStr) (dR b.fStr a.fStr) 0))
def ltV (a b : TValue) : Prop := a.fKind < b.fKind ∨ (a.fKind = b.fKind ∧ (a.fInt < b.fInt ∨ (a.fInt = b.fInt ∧ ltS a.fStr b.fStr)))
theorem oD (a b : TValue) : cmpV a b < 0 ↔ ltV a b := by
 unfold cmpV ltV c3
 by_cases h1 : a.fKind < b.fKind
 ·simp [h1]
 ·by_cases h2 : b.fKind < a.fKind
  ·simp [h1, h2]; omega
  ·have e : a.fKind = b.fKind := by omega
   by_cases h3 : a.fInt < b.fInt
   ·simp [h1, h2, h3, e]
   ·by_cases h4 : b.fInt < a.fInt
    ·simp [h1, h2, h3, h4, e]; omega
    ·have e2 : a.fInt = b.fInt := by omega
     cases h5 : dR a.fStr b.fStr with
     | true => have := (mG _ _).1 h5; simp [h1, h2, h3, h4, e, e2, this]
     | false =>
      have n5 : ¬ ltS a.fStr b.fStr := fun k => by rw [(mG _ _).2 k] at h5; cases h5
      cases h6 : dR b.fStr a.fStr <;> simp [h1, h2, h3, h4, e, e2, n5]
theorem a4R {a b : TValue} (h1 : a.fKind = b.fKind) (h2 : a.fInt = b.fInt) (h3 : a.fStr = b.fStr) : a = b := by cases a; cases b; simp_all
theorem nK (a : TValue) : ¬ ltV a a := by
 rintro (h | ⟨_, h | ⟨_, h⟩⟩)
 ·omega
 ·omega
 ·exact wU _ h
theorem qC (a b c : TValue) (h : ltV a b) (k : ltV b c) : ltV a c := by
 rcases h with h | ⟨e, h | ⟨e2, h⟩⟩ <;> rcases k with k | ⟨f, k | ⟨f2, k⟩⟩
 ·exact .inl (by omega)
 ·exact .inl (by omega)
 ·exact .inl (by omega)
 ·exact .inl (by omega)
 ·exact .inr ⟨by omega, .inl (by omega)⟩
 ·exact .inr ⟨by omega, .inl (by omega)⟩
 ·exact .inl (by omega)
 ·exact .inr ⟨by omega, .inl (by omega)⟩
 ·exact .inr ⟨by omega, .inr ⟨by omega, uP _ _ _ h k⟩⟩
theorem a1f {a b : TValue} (h : ¬ ltV a b) (k : a ≠ b) : ltV b a := by
 unfold ltV at h ⊢
 by_cases h1 : a.fKind < b.fKind
 ·exact absurd (.inl h1) h
 ·by_cases h2 : b.fKind < a.fKind
  ·exact .inl h2
  ·have e : a.fKind = b.fKind := by omega
   by_cases h3 : a.fInt < b.fInt
   ·exact absurd (.inr ⟨e, .inl h3⟩) h
   ·by_cases h4 : b.fInt < a.fInt
    ·exact .inr ⟨e.symm, .inl h4⟩
    ·have e2 : a.fInt = b.fInt := by omega
     have n5 : ¬ ltS a.fStr b.fStr := fun q => h (.inr ⟨e, .inr ⟨e2, q⟩⟩)
     exact .inr ⟨e.symm, .inr ⟨e2.symm, a4N n5 fun q => k (a4R e e2 q)⟩⟩
instance decV : DecidableEq TValue := fun a b =>
 if h : a.fKind = b.fKind ∧ a.fInt = b.fInt ∧ a.fStr = b.fStr then isTrue (a4R h.1 h.2.1 h.2.2) else isFalse fun e => h ⟨by rw [e], by rw [e], by rw [e]⟩
instance decG : DecidableEq TGroup := fun a b =>
 if h : a.fValue = b.fValue ∧ a.fIDs = b.fIDs then isTrue (by cases a; cases b; simp only at h; rw [h.1, h.2]) else isFalse fun e => h ⟨by rw [e], by rw [e]⟩
def kU (l : List TGroup) (x : TValue × Int) : List TGroup :=
 match l with
 | [] => [⟨x.1, [x.2]⟩]
 | g :: r => if g.fValue = x.1 then ⟨g.fValue, g.fIDs ++ [x.2]⟩ :: r else g :: kU r x
def gQ (l : List TGroup) (x : TValue × Int) : List TGroup :=
 match l with
 | [] => [⟨x.1, [x.2]⟩]
 | g :: r => if cmpV g.fValue x.1 < 0 then g :: gQ r x else if g.fValue = x.1 then ⟨g.fValue, g.fIDs ++ [x.2]⟩ :: r else ⟨x.1, [x.2]⟩ :: g :: r
def ltG (a b : TGroup) : Prop := ltV a.fValue b.fValue
theorem a8g (a : TGroup) : ¬ ltG a a := nK _
theorem b0u (a b c : TGroup) (h : ltG a b) (k : ltG b c) : ltG a c := qC _ _ _ h k
theorem insG_mem {l : List TGroup} {x : TValue × Int} {g : TGroup} (h : g ∈ gQ l x) : g.fValue = x.1 ∨ ∃ g' ∈ l, g'.fValue = g.fValue := by
 induction l with
 | nil => simp only [gQ, List.mem_singleton] at h; subst h; exact .inl rfl
 | cons a r ih =>
  unfold gQ at h
  split at h
  ·rcases List.mem_cons.1 h with rfl | h
   ·exact .inr ⟨g, List.mem_cons_self, rfl⟩
   ·rcases ih h with e | ⟨g', h1, h2⟩
    ·exact .inl e
    ·exact .inr ⟨g', List.mem_cons_of_mem _ h1, h2⟩
  ·split at h
   ·rcases List.mem_cons.1 h with rfl | h
    ·exact .inr ⟨a, List.mem_cons_self, rfl⟩
    ·exact .inr ⟨g, List.mem_cons_of_mem _ h, rfl⟩
   ·rcases List.mem_cons.1 h with rfl | h
    ·exact .inl rfl
    ·exact .inr ⟨g, h, rfl⟩
theorem a6J {l : List TGroup} (x : TValue × Int) (h : l.Pairwise ltG) : (gQ l x).Pairwise ltG := by
 induction l with
 | nil => exact List.pairwise_singleton _ _
 | cons a r ih =>
  rw [List.pairwise_cons] at h
  unfold gQ
  split
  ·rename_i hc
   refine List.pairwise_cons.2 ⟨fun g hg => ?_, ih h.2⟩
   rcases insG_mem hg with e | ⟨g', h1, h2⟩
   ·show ltV a.fValue g.fValue; rw [e]; exact (oD _ _).1 hc
   ·show ltV a.fValue g.fValue; rw [← h2]; exact h.1 g' h1
  ·rename_i hc
   split
   ·exact List.pairwise_cons.2 ⟨fun g hg => h.1 g hg, h.2⟩
   ·rename_i hne
    have hx : ltV x.1 a.fValue := a1f (fun k => hc ((oD _ _).2 k)) hne
    refine List.pairwise_cons.2 ⟨fun g hg => ?_, List.pairwise_cons.2 h⟩
    rcases List.mem_cons.1 hg with rfl | hg
    ·exact hx
    ·exact qC _ _ _ hx (h.1 g hg)
def iW (l : List TGroup) : Prop := l.Pairwise fun a b => a.fValue ≠ b.fValue
theorem a0O {l : List TGroup} (h : l.Pairwise ltG) : iW l := h.imp fun {a b} (hab : ltV a.fValue b.fValue) e => by rw [e] at hab; exact nK _ hab
theorem addG_mem {l : List TGroup} {x : TValue × Int} {g : TGroup} (h : g ∈ kU l x) : g.fValue = x.1 ∨ ∃ g' ∈ l, g'.fValue = g.fValue := by
 induction l with
 | nil => simp only [kU, List.mem_singleton] at h; subst h; exact .inl rfl
 | cons a r ih =>
  unfold kU at h
  split at h
  ·rcases List.mem_cons.1 h with rfl | h
   ·exact .inr ⟨a, List.mem_cons_self, rfl⟩
   ·exact .inr ⟨g, List.mem_cons_of_mem _ h, rfl⟩
  ·rcases List.mem_cons.1 h with rfl | h
   ·exact .inr ⟨g, List.mem_cons_self, rfl⟩
   ·rcases ih h with e | ⟨g', h1, h2⟩
    ·exact .inl e
    ·exact .inr ⟨g', List.mem_cons_of_mem _ h1, h2⟩
theorem a8h {l : List TGroup} (x : TValue × Int) (h : iW l) : iW (kU l x) := by
 induction l with
 | nil => exact List.pairwise_singleton _ _
 | cons a r ih =>
  unfold iW at h ih ⊢
  rw [List.pairwise_cons] at h
  unfold kU
  split
  ·exact List.pairwise_cons.2 ⟨fun g hg => h.1 g hg, h.2⟩
  ·rename_i hne
   refine List.pairwise_cons.2 ⟨fun g hg => ?_, ih h.2⟩
   rcases addG_mem hg with e | ⟨g', h1, h2⟩
   ·rw [e]; exact hne
   ·rw [← h2]; exact h.1 g' h1
def upd (l : List TGroup) (x : TValue × Int) (g : TGroup) : Prop :=
 (g ∈ l ∧ g.fValue ≠ x.1) ∨ (∃ g' ∈ l, g'.fValue = x.1 ∧ g = ⟨x.1, g'.fIDs ++ [x.2]⟩) ∨ ((∀ g' ∈ l, g'.fValue ≠ x.1) ∧ g = ⟨x.1, [x.2]⟩)
theorem a6K {l : List TGroup} (x : TValue × Int) (h : iW l) (g : TGroup) : g ∈ kU l x ↔ upd l x g := by
 induction l with
 | nil => simp [kU, upd]
 | cons a r ih =>
  unfold iW at h
  rw [List.pairwise_cons] at h
  have ih' := ih h.2
  unfold kU
  split
  ·rename_i e
   unfold upd
   constructor
   ·intro hg
    rcases List.mem_cons.1 hg with rfl | hg
    ·exact .inr (.inl ⟨a, List.mem_cons_self, e, by rw [e]⟩)
    ·exact .inl ⟨List.mem_cons_of_mem _ hg, fun k => h.1 g hg (by rw [e, k])⟩
   ·rintro (⟨h1, h2⟩ | ⟨g', h1, h2, rfl⟩ | ⟨h1, rfl⟩)
    ·rcases List.mem_cons.1 h1 with rfl | h1
     ·exact absurd e h2
     ·exact List.mem_cons_of_mem _ h1
    ·rcases List.mem_cons.1 h1 with rfl | h1
     ·rw [← h2]; exact List.mem_cons_self
     ·exact absurd (by rw [e, h2]) (h.1 g' h1)
    ·exact absurd e (h1 a List.mem_cons_self)
  ·rename_i hne
   rw [List.mem_cons, ih']
   unfold upd
   constructor
   ·rintro (rfl | ⟨h1, h2⟩ | ⟨g', h1, h2, rfl⟩ | ⟨h1, rfl⟩)
    ·exact .inl ⟨List.mem_cons_self, hne⟩
    ·exact .inl ⟨List.mem_cons_of_mem _ h1, h2⟩
    ·exact .inr (.inl ⟨g', List.mem_cons_of_mem _ h1, h2, rfl⟩)
    ·exact .inr (.inr ⟨fun g' hg' => by
      rcases List.mem_cons.1 hg' with rfl | hg'
      ·exact hne
      ·exact h1 g' hg', rfl⟩)
   ·rintro (⟨h1, h2⟩ | ⟨g', h1, h2, rfl⟩ | ⟨h1, rfl⟩)
    ·rcases List.mem_cons.1 h1 with rfl | h1
     ·exact .inl rfl
     ·exact .inr (.inl ⟨h1, h2⟩)
    ·rcases List.mem_cons.1 h1 with rfl | h1
     ·exact absurd h2 hne
     ·exact .inr (.inr (.inl ⟨g', h1, h2, rfl⟩))
    ·exact .inr (.inr (.inr ⟨fun g' hg' => h1 g' (List.mem_cons_of_mem _ hg'), rfl⟩))
theorem b2j {l : List TGroup} (x : TValue × Int) (h : l.Pairwise ltG) (g : TGroup) : g ∈ gQ l x ↔ upd l x g := by
 induction l with
 | nil => simp [gQ, upd]
 | cons a r ih =>
  have h0 := h
  rw [List.pairwise_cons] at h
  have ih' := ih h.2
  unfold gQ
  split
  ·rename_i hc
   have hne : a.fValue ≠ x.1 := fun e => by rw [e] at hc; exact nK _ ((oD _ _).1 hc)
   rw [List.mem_cons, ih']
   unfold upd
   constructor
   ·rintro (rfl | ⟨h1, h2⟩ | ⟨g', h1, h2, rfl⟩ | ⟨h1, rfl⟩)
    ·exact .inl ⟨List.mem_cons_self, hne⟩
    ·exact .inl ⟨List.mem_cons_of_mem _ h1, h2⟩
    ·exact .inr (.inl ⟨g', List.mem_cons_of_mem _ h1, h2, rfl⟩)
    ·exact .inr (.inr ⟨fun g' hg' => by
      rcases List.mem_cons.1 hg' with rfl | hg'
      ·exact hne
      ·exact h1 g' hg', rfl⟩)
   ·rintro (⟨h1, h2⟩ | ⟨g', h1, h2, rfl⟩ | ⟨h1, rfl⟩)
    ·rcases List.mem_cons.1 h1 with rfl | h1
     ·exact .inl rfl
     ·exact .inr (.inl ⟨h1, h2⟩)
    ·rcases List.mem_cons.1 h1 with rfl | h1
     ·exact absurd h2 hne
     ·exact .inr (.inr (.inl ⟨g', h1, h2, rfl⟩))
    ·exact .inr (.inr (.inr ⟨fun g' hg' => h1 g' (List.mem_cons_of_mem _ hg'), rfl⟩))
  ·rename_i hc
   split
   ·rename_i e
    have hap : iW (a :: r) := a0O h0
    have := a6K x hap g
    unfold kU at this
    rw [if_pos e] at this
    exact this
   ·rename_i hne
    have hx : ltV x.1 a.fValue := a1f (fun k => hc ((oD _ _).2 k)) hne
    have hall : ∀ g' ∈ a :: r, g'.fValue ≠ x.1 := fun g' hg' e => by
     rcases List.mem_cons.1 hg' with rfl | hg'
     ·exact hne e
     ·have h3 : ltV a.fValue g'.fValue := h.1 g' hg'
      rw [e] at h3
      exact nK _ (qC _ _ _ hx h3)
    unfold upd
    constructor
    ·intro hg
     rcases List.mem_cons.1 hg with rfl | hg
     ·exact .inr (.inr ⟨hall, rfl⟩)
     ·exact .inl ⟨hg, hall g hg⟩
    ·rintro (⟨h1, h2⟩ | ⟨g', h1, h2, rfl⟩ | ⟨h1, rfl⟩)
     ·exact List.mem_cons_of_mem _ h1
     ·exact absurd h2 (hall g' h1)
     ·exact List.mem_cons_self
theorem b0v {l m : List TGroup} (h : ∀ g, g ∈ l ↔ g ∈ m) (x : TValue × Int) (g : TGroup) : upd l x g ↔ upd m x g := by
 unfold upd
 simp only [h]
theorem a3M (xs : List (TValue × Int)) : ∀ (l m : List TGroup), iW l → m.Pairwise ltG → (∀ g, g ∈ l ↔ g ∈ m) →
    iW (xs.foldl kU l) ∧ (xs.foldl gQ m).Pairwise ltG ∧ ∀ g, g ∈ xs.foldl kU l ↔ g ∈ xs.foldl gQ m := by
 induction xs with
 | nil => intro l m h1 h2 h3; exact ⟨h1, h2, h3⟩
 | cons x xs ih =>
  intro l m h1 h2 h3
  exact ih (kU l x) (gQ m x) (a8h x h1) (a6J x h2) fun g => by rw [a6K x h1, b2j x h2, b0v h3]
theorem a2J (xs : List (TValue × Int)) {s : List TGroup} (hp : ∀ g, g ∈ s ↔ g ∈ xs.foldl kU []) (hs : s.Pairwise ltG) : s = xs.foldl gQ [] := by
 obtain ⟨_, h2, h3⟩ := a3M xs [] [] List.Pairwise.nil List.Pairwise.nil fun g => Iff.rfl
 exact nZ a8g b0u hs h2 fun g => by rw [hp, h3]
end Go.Proofs.YtakopfjdmmnjcaaGreat
end
section
set_option maxRecDepth 100000
set_option maxHeartbeats 4000000
namespace Go.Proofs.YtakopfjdmmnjcaaGreat
open Go Go.Sx Go.RowKit Go.Proofs
theorem mK (n : Int) : FnC Tryz.prog 148 [oi n] (ob false) := by
 refine ent Tryz.func148 rfl Tryz.call148 rfl (fun C => ?_); simp only [go_sem, st0, Tryz.ntmps148]
 have q0 := @decide_true; refine iB ?_
 exact aA ⟨⟨_, rfl, by simp only [go_sem, decide_true]⟩, trivial⟩
theorem uR (n : ByteArray) : FnC Tryz.prog 149 [os n] (ob false) := by
 refine ent Tryz.func149 rfl Tryz.call149 rfl (fun C => ?_); simp only [go_sem, st0, Tryz.ntmps149]
 have q0 := @decide_true; refine iB ?_
 exact aA ⟨⟨_, rfl, by simp only [go_sem, decide_true]⟩, trivial⟩
def cmpI (a b : Int) : Int := c3 (decide (a < b)) (decide (b < a)) 0
def cmpS (a b : ByteArray) : Int := c3 (dR a b) (dR b a) 0
theorem a0E (a b : Int) : FnC Tryz.prog 118 [oi a, oi b] (oi (cmpI a b)) := by
 refine ent Tryz.func118 rfl Tryz.call118 rfl (fun C => ?_); simp only [go_sem, st0, Tryz.ntmps118]
 by_cases h1 : a < b
 ·have e : cmpI a b = -1 := by simp [cmpI, c3, h1]
  have q0 := @h1; have q1 := @decide_true; refine yU (mK a) (mK b) ?_
  exact aA ⟨⟨_, rfl, by simp only [go_sem, e]⟩, trivial⟩
 ·by_cases h2 : b < a
  ·have e : cmpI a b = 1 := by simp [cmpI, c3, h1, h2]
   have q0 := @h1; have q1 := @h2; have q2 := @decide_true; have q3 := @decide_false; refine xR (mK a) (mK b) ?_
   exact aA ⟨⟨_, rfl, by simp only [go_sem, e]⟩, trivial⟩
  ·have e : cmpI a b = 0 := by simp [cmpI, c3, h1, h2]
   have q0 := @h1; have q1 := @h2; have q2 := @decide_false; refine a4o (mK a) (mK b) ?_
   exact aA ⟨⟨_, rfl, by simp only [go_sem, e]⟩, trivial⟩
theorem a6L {a b : ByteArray} (h : dR a b = false) : dR b a = !decide (a = b) := by
 by_cases e : a = b
 ·subst e; simp [h]
 ·simp only [e, decide_false, Bool.not_false]
  exact (mG _ _).2 (a4N (fun k => by rw [(mG _ _).2 k] at h; cases h) e)
theorem a6M (a b : ByteArray) : FnC Tryz.prog 119 [os a, os b] (oi (cmpS a b)) := by
 refine ent Tryz.func119 rfl Tryz.call119 rfl (fun C => ?_); simp only [go_sem, st0, Tryz.ntmps119]
 cases h1 : dR a b with
 | true =>
  have e : cmpS a b = -1 := by simp [cmpS, c3, h1]
  have q0 := @h1; refine a7r (uR a) (uR b) ?_
  exact aA ⟨⟨_, rfl, by simp only [go_sem, e]⟩, trivial⟩
 | false =>
  have e : cmpS a b = if (!decide (a = b)) = true then 1 else 0 := by rw [← a6L h1]; cases h3 : dR b a <;> simp [cmpS, c3, h1, h3]
  have q0 := @h1; refine a7r (uR a) (uR b) ?_
  refine cnd rfl (fun h3 => ?_) (fun h3 => ?_)
  ·rw [if_pos h3] at e
   refine aD ?_
   exact aA ⟨⟨_, rfl, by simp only [go_sem, e]⟩, trivial⟩
  ·rw [if_neg (by rw [h3]; simp)] at e
   refine aD ?_
   exact aA ⟨⟨_, rfl, by simp only [go_sem, e]⟩, trivial⟩
def orI : List Int → Int
 | [] => 0
 | x :: xs => if x = 0 then orI xs else x
theorem b4N (l : List Int) (hl : l.length ≤ 1000) : FnC Tryz.prog 117 [.o (.d (.sl (l.map fA)))] (oi (orI l)) := by
 generalize hg : orI l = res
 refine ent Tryz.func117 rfl Tryz.call117 rfl (fun C => ?_); simp only [go_sem, st0, Tryz.ntmps117]
 refine aD ?_
 refine aM (α := Nat) (fun k => [(8, oi k)]) (fun _ => []) (fun k => k ≤ l.length ∧ orI (l.drop k) = res) (fun k => l.length - k) 0 (fun _ => ?_) ?_ ?_ (fun k hk => ?_)
 ·simp only [go_sem]
 ·simp only [go_sem]; simp
 ·simp [hg]
 ·obtain ⟨hk, hq⟩ := hk
  simp only [go_sem]
  refine aD ?_
  refine cnd rfl (fun h => ?_) (fun h => ?_)
  ·simp only [decide_eq_true_eq, Int.ofNat_lt] at h
   rw [List.drop_eq_getElem_cons h, orI] at hq
   by_cases h1 : l[k] = 0
   ·rw [if_pos h1] at hq
    have q0 := @h; have q1 := @h1; have q2 := @decide_true; refine lI ?_
    refine aF (k + 1) ?_ ?_ ?_
    ·simp only [go_sem]; simp
    ·exact ⟨h, hq⟩
    ·omega
   ·rw [if_neg h1] at hq
    have q0 := @h; have q1 := @h1; have q2 := @decide_false; refine lI ?_
    exact aA ⟨⟨_, rfl, by simp only [go_sem, hq]⟩, trivial⟩
  ·simp only [decide_eq_false_iff_not] at h
   have e : k = l.length := by omega
   subst e
   simp only [List.drop_length, orI] at hq
   subst hq
   refine aD ?_
   exact aA ⟨⟨_, rfl, by simp only [go_sem]⟩, trivial⟩
theorem b3y (a b : TValue) : orI [cmpI a.fKind b.fKind, cmpI a.fInt b.fInt, cmpS a.fStr b.fStr] = cmpV a b := by
 simp only [orI, cmpV, cmpI, cmpS, c3]
 by_cases h1 : a.fKind < b.fKind
 ·simp [h1]
 ·by_cases h2 : b.fKind < a.fKind
  ·simp [h1, h2]
  ·by_cases h3 : a.fInt < b.fInt
   ·simp [h1, h2, h3]
   ·by_cases h4 : b.fInt < a.fInt
    ·simp [h1, h2, h3, h4]
    ·simp only [h1, h2, h3, h4, decide_false, Bool.false_eq_true, if_false, if_true]
     by_cases h5 : dR a.fStr b.fStr = true <;> by_cases h6 : dR b.fStr a.fStr = true <;> simp [h5, h6]
theorem a2t (a b : TValue) : FnC Tryz.prog 78 [jG a, jG b] (oi (cmpV a b)) := by
 have hO := b4N [cmpI a.fKind b.fKind, cmpI a.fInt b.fInt, cmpS a.fStr b.fStr] (by simp)
 rw [b3y] at hO
 simp only [List.map_cons, List.map_nil, fA] at hO
 have h1 := a0E a.fKind b.fKind
 have h2 := a0E a.fInt b.fInt
 have h3 := a6M a.fStr b.fStr
 generalize cmpI a.fKind b.fKind = k1 at hO h1
 generalize cmpI a.fInt b.fInt = k2 at hO h2
 generalize cmpS a.fStr b.fStr = k3 at hO h3
 generalize cmpV a b = k4 at hO
 refine ent Tryz.func78 rfl Tryz.call78 rfl (fun C => ?_); simp only [go_sem, st0, Tryz.ntmps78]
 have qH := trivial; repeat' (with_reducible first | refine nY ?_ | (refine mX ?_; try simp only [go_sem]) | refine kD ?_ | (apply rE [4,9,14,15,16] [] [0,1,2,3,5,6,7,8,10,11,12,13] [0,1,2,3,5,6,7,8,10,11,12,13] ((.c 4 [] [5,6,7,8,10,11,12,13] (.c 9 [] [10,11,12,13] (.c 14 [] [] (.c 15 [] [] (.c 16 [17] [17] .n .n) .n) .n) .n) .n)) (by simp only [go_sem]; rfl) (by simp only [go_sem]; rfl) (by simp only [go_sem]; rfl) (by decide +kernel); (focus simp only [go_sem]; done)) | exact iV | refine fU (uX ?_) ?_ | refine fV (aX ?_) ?_ | refine fZ (aX ?_) ?_ | exact jE | exact oH | (refine uA ?_; simp only [go_sem]; (repeat' first | omega | refine And.intro ?_ ?_); done) | refine rD ?_ | refine cP h1 ?_ | refine cP h2 ?_ | refine cP h3 ?_ | refine cP hO ?_ | refine aO ?_ | fail)
 exact aA ⟨⟨_, rfl, by simp only [go_sem]⟩, trivial⟩
theorem a2u (a b : TValue) : FnC Tryz.prog 87 [jG a, jG b] (oi (cmpV a b)) := by
 refine ent Tryz.func87 rfl Tryz.call87 rfl (fun C => ?_); simp only [go_sem, st0, Tryz.ntmps87]
 by_cases h1 : a.fKind < b.fKind
 ·have e : cmpV a b = -1 := by simp [cmpV, c3, h1]
  have q0 := @h1; have q1 := @decide_true; refine jB ?_
  exact aA ⟨⟨_, rfl, by simp only [go_sem, e]⟩, trivial⟩
 by_cases h2 : b.fKind < a.fKind
 ·have e : cmpV a b = 1 := by simp [cmpV, c3, h1, h2]
  have q0 := @h1; have q1 := @h2; have q2 := @decide_true; have q3 := @decide_false; refine lJ ?_
  exact aA ⟨⟨_, rfl, by simp only [go_sem, e]⟩, trivial⟩
 by_cases h3 : a.fInt < b.fInt
 ·have e : cmpV a b = -1 := by simp [cmpV, c3, h1, h2, h3]
  have q0 := @h1; have q1 := @h2; have q2 := @h3; have q3 := @decide_true; have q4 := @decide_false; refine xS ?_
  exact aA ⟨⟨_, rfl, by simp only [go_sem, e]⟩, trivial⟩
 by_cases h4 : b.fInt < a.fInt
 ·have e : cmpV a b = 1 := by simp [cmpV, c3, h1, h2, h3, h4]
  have q0 := @h1; have q1 := @h2; have q2 := @h3; have q3 := @h4; have q4 := @decide_true; have q5 := @decide_false; refine a9F ?_
  exact aA ⟨⟨_, rfl, by simp only [go_sem, e]⟩, trivial⟩
 cases h5 : dR a.fStr b.fStr with
 | true =>
  have e : cmpV a b = -1 := by simp [cmpV, c3, h1, h2, h3, h4, h5]
  have q0 := @h1; have q1 := @h2; have q2 := @h3; have q3 := @h4; have q4 := @h5; have q5 := @decide_false; refine a9F ?_
  exact aA ⟨⟨_, rfl, by simp only [go_sem, e]⟩, trivial⟩
 | false =>
  have e : cmpV a b = if (!decide (a.fStr = b.fStr)) = true then 1 else 0 := by rw [← a6L h5]; cases h7 : dR b.fStr a.fStr <;> simp [cmpV, c3, h1, h2, h3, h4, h5, h7]
  have q0 := @h1; have q1 := @h2; have q2 := @h3; have q3 := @h4; have q4 := @h5; have q5 := @decide_false; refine a9F ?_
  refine cnd rfl (fun h7 => ?_) (fun h7 => ?_)
  ·rw [if_pos h7] at e
   refine aD ?_
   exact aA ⟨⟨_, rfl, by simp only [go_sem, e]⟩, trivial⟩
  ·rw [if_neg (by rw [h7]; simp)] at e
   refine aD ?_
   exact aA ⟨⟨_, rfl, by simp only [go_sem, e]⟩, trivial⟩
abbrev bL := TGroup × Value
@[go_sem] def nI (p : bL) : List D := [iv p.1.fValue.fKind, iv p.1.fValue.fInt, sv p.1.fValue.fStr, .v p.2]
@[go_sem] def gO (p : bL) : SV := .g [.d (iv p.1.fValue.fKind), .d (iv p.1.fValue.fInt), .d (sv p.1.fValue.fStr), .d (.v p.2)]
def tY (p : bL) : Value × List (List Value) := (p.2, p.1.fIDs.map fun i => [Value.int .i64 i])
def itO (p : bL) : List Value × Value × List (List Value) := ([.int .i64 p.1.fValue.fKind, .int .i64 p.1.fValue.fInt, .string p.1.fValue.fStr], p.2, p.1.fIDs.map fun i => [Value.int .i64 i])
theorem a9h (p : bL) : oK (itO p) = eG p.1 := by
 simp only [oK, itO, eG, List.map_map, List.map_cons, List.map_nil, List.cons_append, List.nil_append]
 congr 4
def eB (s : TStore) (ids : List Int) (name : ByteArray) : List (TValue × Int) := ids.map fun id => (getAttr name (iT id s.fFiles).fAttrs, id)
def nJ (v : TValue) (p : bL) : Bool := vH p.1.fValue v
theorem qB (a b : TValue) : vH a b = true ↔ a = b := by
 unfold vH
 simp only [Bool.and_eq_true, decide_eq_true_eq]
 constructor
 ·rintro ⟨h1, h2, h3⟩; exact a4R h1 h2 h3
 ·rintro rfl; exact ⟨rfl, rfl, rfl⟩
theorem a6F (v : TValue) (id : Int) (z' : Value) : ∀ {its : List bL} {k : Nat} (hk : k < its.length), nJ v its[k] = true → (∀ j (hj : j < its.length), j < k → nJ v its[j] = false) →
    kU (its.map (·.1)) (v, id) = (its.set k (⟨its[k].1.fValue, its[k].1.fIDs ++ [id]⟩, z')).map (·.1)
 | [], k, hk, _, _ => by simp at hk
 | p :: its, 0, hk, h1, _ => by
  have e := (qB _ _).1 h1
  simp only [List.getElem_cons_zero] at e
  simp [kU, e]
 | p :: its, k + 1, hk, h1, h2 => by
  have h0 := h2 0 (by simp) (by omega)
  simp only [List.getElem_cons_zero] at h0
  have hne : p.1.fValue ≠ v := fun e => by rw [nJ, (qB _ _).2 e] at h0; cases h0
  simp only [List.map_cons, kU, if_neg hne, List.set_cons_succ, List.getElem_cons_succ]
  have h2' : ∀ j (hj : j < its.length), j < k → nJ v its[j] = false := fun j hj hjk => by
   have := h2 (j + 1) (by simp; omega) (by omega)
   rwa [List.getElem_cons_succ] at this
  rw [a6F v id z' (by simpa using hk) (by rwa [List.getElem_cons_succ] at h1) h2']
theorem a6G (v : TValue) (id : Int) : ∀ {its : List bL}, (∀ p ∈ its, nJ v p = false) → kU (its.map (·.1)) (v, id) = its.map (·.1) ++ [⟨v, [id]⟩]
 | [], _ => rfl
 | p :: its, h => by
  have h0 := h p List.mem_cons_self
  have hne : p.1.fValue ≠ v := fun e => by rw [nJ, (qB _ _).2 e] at h0; cases h0
  simp only [List.map_cons, kU, if_neg hne, List.cons_append]
  rw [a6G v id fun q hq => h q (List.mem_cons_of_mem _ hq)]
theorem a6H (x : TValue × Int) : ∀ l : List TGroup, wsum (fun g => g.fIDs.length) (kU l x) = wsum (fun g => g.fIDs.length) l + 1 ∧ (kU l x).length ≤ l.length + 1
 | [] => by simp [kU, wsum]
 | g :: l => by
  have ih := a6H x l
  unfold kU
  split
  ·simp [wsum]; omega
  ·simp [wsum]; omega
theorem a6I (xs : List (TValue × Int)) : ∀ l : List TGroup, wsum (fun g => g.fIDs.length) (xs.foldl kU l) = wsum (fun g => g.fIDs.length) l + xs.length ∧ (xs.foldl kU l).length ≤ l.length + xs.length := by
 induction xs with
 | nil => intro l; simp
 | cons x xs ih =>
  intro l
  have h1 := a6H x l
  have h2 := ih (kU l x)
  simp only [List.foldl_cons, List.length_cons]
  omega
end Go.Proofs.YtakopfjdmmnjcaaGreat
end
section
set_option maxRecDepth 100000
set_option maxHeartbeats 4000000
namespace Go.Proofs.YtakopfjdmmnjcaaGreat
open Go Go.Sx Go.RowKit Go.Proofs Go.Sort
instance inhO : Inhabited bL := ⟨(⟨⟨0, 0, ⟨#[]⟩⟩, []⟩, .slice none 0 0)⟩
theorem b4M {f ty sz : Nat} {fn : Func} {c : Code} {rows rows' : List (List D)} {args : List SV} (hf : Tryz.prog.funcs[f]? = some fn) (hb : fn.body = some c) (hcall : ∀ x w, (callFunc f x).run Tryz.prog w = .ok (.enter f x) w) (hres : fn.results = #[])
    (hfl : gP rows = true) (hfl' : gP rows' = true) (hlen : rows'.length = rows.length) (h0 : rows = [] → FnC Tryz.prog f (.o (.d (.sl [])) :: args) (.t []))
    (h : rows ≠ [] → ∀ (C : Ctx) (y : Value), WP Tryz.prog C c (bV Tryz.prog C [] (b4m ty sz rows' y)) (stI ty sz rows y args fn.ntmps)) : FnI Tryz.prog f ty sz rows args true rows' := FnI.of_wp (eqk := eqk) ttOK hf hb hcall hres hfl hfl' hlen h0 h
attribute [go_sem] stI
def fT (d : Array bL) : List (List D) := d.toList.map nI
theorem kT (d : Array bL) : gP (fT d) = true := by
 unfold gP fT
 simp [nI, isV]
theorem jO (d : Array bL) : (fT d).length = d.size := by simp [fT]
theorem zX {d : Array bL} (h : fT d = []) : d.size = 0 := by rw [← jO, h]; rfl
theorem lH (d : Array bL) (i : Nat) (h : i < d.toList.length) : d.toList[i] = d[i]! := by
 rw [getElem!_pos d i (by simpa using h)]; rfl
theorem b0t (d : Array bL) (i j : Nat) (hi : i < d.toList.length) (hj : j < d.toList.length) : ((d.toList.map nI).set i (nI d.toList[j])).set j (nI d.toList[i]) = fT (swp d i j) := by
 unfold fT swp
 rw [Array.toList_setIfInBounds, Array.toList_setIfInBounds, List.map_set, List.map_set, lH d i hi, lH d j hj]
theorem b3w (L : List (List D)) {i j : Nat} (h : i ≠ j) (r : List D) : eF (L.set i r) j = eF L j := by
 simp only [eF, List.getD_eq_getElem?_getD, List.getElem?_set_ne h]
def ltO (a b : bL) : Bool := decide (cmpV a.1.fValue b.1.fValue < 0)
theorem b3x (p q : bL) : FnC Tryz.prog 77 [gO p, gO q] (oi (cmpV p.1.fValue q.1.fValue)) := by
 refine ent Tryz.func77 rfl Tryz.call77 rfl (fun C => ?_); simp only [go_sem, st0, Tryz.ntmps77]
 refine iL (a2t p.1.fValue q.1.fValue) ?_
 exact aA ⟨⟨_, rfl, by simp only [go_sem]⟩, trivial⟩
theorem vV (a : Nat) : ∀ (j : Nat) (d : Array bL), (insInner ltO a j d).size = d.size
 | 0, d => rfl
 | j + 1, d => by
  unfold insInner
  split
  ·rw [vV a j, swp_size]
  ·rfl
theorem a2s (a b : Nat) : ∀ (n i : Nat) (d : Array bL), b - i = n → (insOuter ltO a b i d).size = d.size
 | 0, i, d, h => by rw [insOuter_stop _ _ _ _ _ (by omega)]
 | n + 1, i, d, h => by rw [insOuter_go _ _ _ _ _ (by omega), a2s a b n (i + 1) _ (by omega), vV]
theorem a0D : FnC Tryz.prog 146 [.o (.d (.sl [])), oi 0, oi 0, .o (.f 77 [])] (.t []) := by
 refine ent Tryz.func146 rfl Tryz.call146 rfl (fun C => ?_); simp only [go_sem, st0, Tryz.ntmps146]
 refine aD ?_
 refine aM (α := Unit) (fun _ => [(8, oi 1)]) (fun _ => []) (fun _ => True) (fun _ => 0) () (fun _ => ?_) ?_ trivial (fun _ _ => ?_)
 ·simp only [go_sem]
 ·simp only [go_sem]; simp
 ·simp only [go_sem]
  refine aD ?_
  exact sK ⟨⟨_, rfl, by simp only [go_sem]⟩, by simp [dN]⟩
theorem wV (d : Array bL) (a b : Nat) (hab : a ≤ b) (hb : b ≤ d.size) (hsz : d.size ≤ 1048576) :
    FnI Tryz.prog 146 75 4 (fT d) [oi a, oi b, .o (.f 77 [])] true (fT (Sort.insertionSort ltO d a b)) := by
 refine b4M Tryz.func146 rfl Tryz.call146 rfl (kT d) (kT _) (by rw [jO, jO]; exact a2s a b _ _ d rfl) (fun h0 => ?_) (fun hne C y => ?_)
 ·have h1 := zX h0
  have ha : a = 0 := by omega
  have hb' : b = 0 := by omega
  subst ha hb'
  exact a0D
 ·simp only [go_sem, Tryz.ntmps146]
  refine aD ?_
  refine aM (α := Nat × Array bL) (fun x => [(8, oi x.1)]) (fun x => [(0, .row 75 4 (fT x.2) true)]) (fun x => a < x.1 ∧ x.1 ≤ b + 1 ∧ x.2.size = d.size ∧ insOuter ltO a b x.1 x.2 = insOuter ltO a b (a + 1) d) (fun x => b + 1 - x.1) (a + 1, d) (fun _ => ?_) ?_ ?_ (fun x hx => ?_)
  ·simp only [go_sem]
  ·simp only [go_sem]; simp
  ·exact ⟨by simp, by simp only; omega, rfl, rfl⟩
  ·obtain ⟨i, dk⟩ := x
   obtain ⟨h1, h2, h3, h4⟩ := hx
   simp only at h1 h2 h3 h4
   simp only [go_sem]
   by_cases hlt : i < b
   ·have hlt' : ((i : Int) < (b : Int)) = True := by simp [hlt]
    have q0 := @hlt'; have q1 := @decide_true; refine jB ?_
    refine aM (α := Nat × Array bL) (fun x => [(9, oi x.1)]) (fun x => [(0, .row 75 4 (fT x.2) true)]) (fun x => a ≤ x.1 ∧ x.1 ≤ i ∧ x.2.size = d.size ∧ insInner ltO a x.1 x.2 = insInner ltO a i dk) (fun x => x.1) (i, dk) (fun _ => ?_) ?_ ?_ (fun x hx => ?_)
    ·simp only [go_sem]
    ·simp only [go_sem]; simp
    ·exact ⟨by simp only; omega, by simp, h3, rfl⟩
    ·obtain ⟨j, dj⟩ := x
     obtain ⟨k1, k2, k3, k4⟩ := hx
     simp only at k1 k2 k3 k4
     simp only [go_sem]
     by_cases hja : a < j
     ·obtain ⟨jp, rfl⟩ : ∃ jp, j = jp + 1 := ⟨j - 1, by omega⟩
      have hg : ((a : Int) < ((jp + 1 : Nat) : Int)) = True := by simp; omega
      have he : ((jp + 1 : Nat) : Int) - 1 = (jp : Int) := by omega
      have l1 : jp + 1 < dj.toList.length := by simp; omega
      have l0 : jp < dj.toList.length := by omega
      have hc := b3x dj.toList[jp + 1] dj.toList[jp]
      simp only [fT]
      have qH := aI @hg (aI @he (aI @l1 (aI @l0 @decide_true))); repeat' (with_reducible first | refine nY ?_ | (refine mX ?_; try simp only [go_sem, qH]) | refine kD ?_ | refine rT [16] [] ?_ | refine bU (aX ?_) (uX ?_) | refine dI (aX ?_) ?_ | (refine uA ?_; simp only [go_sem, qH]; (repeat' first | omega | refine And.intro ?_ ?_ | refine cP hc ?_ | (refine mX ?_; simp only [go_sem, qH] <;> fail)); done) | refine rD ?_ | refine cP hc ?_ | refine aO ?_ | fail)
      refine cnd (b := ltO dj.toList[jp + 1] dj.toList[jp]) rfl (fun h5 => ?_) (fun h5 => ?_)
      ·have hsw := b0t dj (jp + 1) jp l1 l0
       simp only [nI] at hsw
       have hrw : ∀ (L : List (List D)) (r : List D), eF (L.set (jp + 1) r) jp = eF L jp := fun L r => b3w L (by omega) r
       repeat' (with_reducible first | refine nY ?_ | (refine mX ?_; try simp only [go_sem, hg, he, l1, l0, decide_true, List.length_set, hrw]) | refine kO ?_ (by decide) | (apply rE [15,17] [] [0,1,2,3,4,5,6,7,8,9,10,11,12,13,14] [0,1,2,3,4,5,6,7,8,9,10,11,12,13,14] ((.c 15 [16] [2,3,4,16] (.c 17 [] [] .n .n) .n)) (by simp only [go_sem]; rfl) (by simp only [go_sem]; rfl) (by simp only [go_sem]; rfl) (by decide +kernel); (focus simp only [go_sem]; done)) | exact iV | (refine fU (uX ?_) ?_) | refine fV (aX ?_) ?_ | refine fZ (aX ?_) ?_ | exact jE | (refine oG ?_; (focus simp only [go_sem]; done)) | (refine uA ?_; simp only [go_sem, hg, he, l1, l0, decide_true, List.length_set, hrw]; (repeat' first | omega | refine And.intro ?_ ?_); done) | refine regd (by kernel_rfl) ?_ | (refine And.intro ?_ ?_; focus omega))
       refine aF (jp, swp dj (jp + 1) jp) ?_ ?_ ?_
       ·simp only [go_sem]; simp
        exact hsw
       ·refine ⟨by simp only; omega, by simp only; omega, by rw [swp_size]; exact k3, ?_⟩
        simp only
        rw [← k4, insInner_go ltO a (jp + 1) dj hja (by rw [lH, lH] at h5; exact h5)]
        rfl
       ·simp only; omega
      ·refine aD ?_
       refine aF (i + 1, dj) ?_ ?_ ?_
       ·simp only [go_sem]; simp [fT]
       ·refine ⟨by simp only; omega, by simp only; omega, k3, ?_⟩
        simp only
        rw [← h4, insOuter_go _ _ _ _ _ hlt, ← k4, insInner_stop ltO a (jp + 1) dj (.inr (by rw [lH, lH] at h5; exact h5))]
       ·simp only; omega
     ·have hg : ((a : Int) < (j : Int)) = False := by simp; omega
      simp only [fT]
      have qH := aI @hg @decide_false; repeat' (with_reducible first | refine nY ?_ | (refine mX ?_; try simp only [go_sem, qH]) | refine kD ?_ | refine rT [16] [] ?_ | refine bU (aX ?_) (uX ?_) | refine dI (aX ?_) ?_ | exact uB | refine rD ?_ | refine aO ?_ | fail)
      refine aF (i + 1, dj) ?_ ?_ ?_
      ·simp only [go_sem]; simp [fT]
      ·refine ⟨by simp only; omega, by simp only; omega, k3, ?_⟩
       simp only
       rw [← h4, insOuter_go _ _ _ _ _ hlt, ← k4, insInner_stop ltO a j dj (.inl (by omega))]
      ·simp only; omega
   ·have hlt' : ((i : Int) < (b : Int)) = False := by simp [hlt]
    have hfin : dk = Sort.insertionSort ltO d a b := by
     unfold Sort.insertionSort
     rw [← h4, insOuter_stop _ _ _ _ _ hlt]
    subst hfin
    have q0 := @hlt'; have q1 := @decide_false; refine jB ?_
    exact nT rfl rfl
end Go.Proofs.YtakopfjdmmnjcaaGreat
end
