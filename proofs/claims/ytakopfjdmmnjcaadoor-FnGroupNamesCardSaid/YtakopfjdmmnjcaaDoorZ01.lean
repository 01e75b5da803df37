/- Joined texts. -/
import Derived.Ground.NamesProg
import Derived.Ground.Names2Prog
import Derived.Shelf.Sort.Plain
import Derived.Shelf.Slices.In.SortNone
import Derived.Shelf.Slices.CompactI
import Derived.Shelf.Slices.CompactS
import Derived.Test.YtakopfjdmmnjcaaDoorProg
import Derived.Shelf.Strconv.Itoa3
import Derived.Shelf.SlGeneric
import Derived.Shelf.SlSortCmp.KitK
import Derived.Shelf.SlicesQ.IndexFunc
import Derived.Ground.SlsfProg
import Derived.Ground.SlgfProg
set_option linter.all false
section
namespace Go.Proofs
open Go.Shelf
def Tryd.laysItoa_ren : Go.Shelf.Ren := ⟨fun | 171 => 70 | 243 => 73 | 246 => 75 | 283 => 76 | 284 => 77 | 285 => 78 | 286 => 79 | 129 => 81 | 317 => 80 | 318 => 82 | 319 => 83 | 320 => 84 | 337 => 85 | 338 => 86 | n => n, fun | 3 => 3 | 9 => 9 | 2 => 2 | 4 => 4 | 171 => 105 | 0 => 0 | 53 => 106 | 37 => 22 | 5 => 5 | 173 => 109 | 212 => 113 | 51 => 114 | 20 => 20 | 213 => 115 | 46 => 103 | 232 => 118 | 233 => 119 | n => n, fun | 17 => 0 | 18 => 1 | 19 => 2 | n => n⟩
theorem Tryd.laysItoa : Go.Proofs.LaysM.n171 Tryd.prog Tryd.laysItoa_ren := {
 mixed := by kernel_rfl
 f129 := Tryd.func81.trans (congrArg some (by kernel_rfl))
 f171 := Tryd.func70.trans (congrArg some (by kernel_rfl))
 f243 := Tryd.func73.trans (congrArg some (by kernel_rfl))
 f246 := Tryd.func75.trans (congrArg some (by kernel_rfl))
 f283 := Tryd.func76.trans (congrArg some (by kernel_rfl))
 f284 := Tryd.func77.trans (congrArg some (by kernel_rfl))
 f285 := Tryd.func78.trans (congrArg some (by kernel_rfl))
 f286 := Tryd.func79.trans (congrArg some (by kernel_rfl))
 f317 := Tryd.func80.trans (congrArg some (by kernel_rfl))
 f318 := Tryd.func82.trans (congrArg some (by kernel_rfl))
 f319 := Tryd.func83.trans (congrArg some (by kernel_rfl))
 f320 := Tryd.func84.trans (congrArg some (by kernel_rfl))
 f337 := Tryd.func85.trans (congrArg some (by kernel_rfl))
 f338 := Tryd.func86.trans (congrArg some (by kernel_rfl))
 t0 := Tryd.underlying0
 a0 := Tryd.isAgg0
 z0 := Tryd.sizeOf0
 v0 := Tryd.zeroValue0
 t2 := Tryd.underlying2
 a2 := Tryd.isAgg2
 z2 := Tryd.sizeOf2
 v2 := Tryd.zeroValue2
 t3 := Tryd.underlying3
 a3 := Tryd.isAgg3
 z3 := Tryd.sizeOf3
 v3 := Tryd.zeroValue3
 t4 := Tryd.underlying4
 a4 := Tryd.isAgg4
 z4 := Tryd.sizeOf4
 v4 := Tryd.zeroValue4
 t5 := Tryd.underlying5
 a5 := Tryd.isAgg5
 z5 := Tryd.sizeOf5
 v5 := Tryd.zeroValue5
 t9 := Tryd.underlying9
 a9 := Tryd.isAgg9
 z9 := Tryd.sizeOf9
 v9 := Tryd.zeroValue9
 t20 := Tryd.underlying20
 a20 := Tryd.isAgg20
 z20 := Tryd.sizeOf20
 v20 := Tryd.zeroValue20
 t37 := Tryd.underlying22
 a37 := Tryd.isAgg22
 z37 := Tryd.sizeOf22
 v37 := Tryd.zeroValue22
 t46 := Tryd.underlying103
 a46 := Tryd.isAgg103
 z46 := Tryd.sizeOf103
 v46 := Tryd.zeroValue103
 t51 := Tryd.underlying114
 a51 := Tryd.isAgg114
 z51 := Tryd.sizeOf114
 v51 := Tryd.zeroValue114
 t53 := Tryd.underlying106
 a53 := Tryd.isAgg106
 z53 := Tryd.sizeOf106
 v53 := Tryd.zeroValue106
 t171 := Tryd.underlying105
 a171 := Tryd.isAgg105
 z171 := Tryd.sizeOf105
 v171 := Tryd.zeroValue105
 t173 := Tryd.underlying109
 a173 := Tryd.isAgg109
 z173 := Tryd.sizeOf109
 v173 := Tryd.zeroValue109
 t212 := Tryd.underlying113
 a212 := Tryd.isAgg113
 z212 := Tryd.sizeOf113
 v212 := Tryd.zeroValue113
 t213 := Tryd.underlying115
 a213 := Tryd.isAgg115
 z213 := Tryd.sizeOf115
 t232 := Tryd.underlying118
 a232 := Tryd.isAgg118
 z232 := Tryd.sizeOf118
 v232 := Tryd.zeroValue118
 t233 := Tryd.underlying119
 a233 := Tryd.isAgg119
 z233 := Tryd.sizeOf119
 v233 := Tryd.zeroValue119
 g17 := by kernel_rfl
 g18 := by kernel_rfl
 g19 := by kernel_rfl
 i0 := by kernel_rfl
 i2 := by kernel_rfl
 i3 := by kernel_rfl
 i4 := by kernel_rfl
 i5 := by kernel_rfl
 i9 := by kernel_rfl
 i20 := by kernel_rfl
 i37 := by kernel_rfl
 i46 := by kernel_rfl
 i51 := by kernel_rfl
 i53 := by kernel_rfl
 i171 := by kernel_rfl
 i173 := by kernel_rfl
 i212 := by kernel_rfl
 i232 := by kernel_rfl
 i233 := by kernel_rfl
 m17 := by kernel_rfl
 m18 := by kernel_rfl
 m19 := by kernel_rfl }
def Tryd.laysInsG_ren : Go.Shelf.Ren := ⟨fun | 20 => 61 | n => n, fun | 24 => 39 | 22 => 31 | 3 => 3 | 25 => 58 | 4 => 4 | 0 => 0 | n => n, fun | n => n⟩
def Tryd.laysIdxG_ren : Go.Shelf.Ren := ⟨fun | 6 => 20 | n => n, fun | 22 => 31 | 23 => 39 | 25 => 55 | 3 => 3 | 0 => 0 | 4 => 4 | n => n, fun | n => n⟩
end Go.Proofs
end
