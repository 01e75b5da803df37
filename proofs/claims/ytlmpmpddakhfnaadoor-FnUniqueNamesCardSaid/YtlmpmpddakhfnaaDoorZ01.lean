/- Joined texts. -/
import Derived.Ground.NamesProg
import Derived.Ground.Names2Prog
import Derived.Shelf.Sort.Plain
import Derived.Shelf.Slices.In.SortNone
import Derived.Shelf.Slices.CompactI
import Derived.Shelf.Slices.CompactS
import Derived.Test.YtlmpmpddakhfnaaDoorProg
import Derived.Shelf.Strconv.Itoa3
import Derived.Shelf.Strings.Search3
import Derived.Shelf.SlGeneric
import Derived.Shelf.SlSortCmp.KitK
import Derived.Shelf.SlicesQ.IndexFunc
import Derived.Ground.SlsfProg
import Derived.Ground.SlgfProg
set_option linter.all false
section
namespace Go.Proofs
open Go.Shelf
def Tryd.laysItoa_ren : Go.Shelf.Ren := ⟨fun | 171 => 78 | 243 => 99 | 246 => 104 | 283 => 110 | 284 => 111 | 285 => 112 | 286 => 113 | 129 => 117 | 317 => 116 | 318 => 118 | 319 => 119 | 320 => 120 | 337 => 121 | 338 => 122 | n => n, fun | 3 => 3 | 9 => 9 | 2 => 2 | 4 => 4 | 171 => 128 | 0 => 0 | 53 => 129 | 37 => 22 | 5 => 5 | 173 => 132 | 212 => 138 | 51 => 134 | 20 => 20 | 213 => 139 | 46 => 124 | 232 => 142 | 233 => 143 | n => n, fun | 17 => 1 | 18 => 2 | 19 => 3 | n => n⟩
theorem Tryd.laysItoa : Go.Proofs.LaysM.n171 Tryd.prog Tryd.laysItoa_ren := {
 mixed := by kernel_rfl
 f129 := Tryd.func117.trans (congrArg some (by kernel_rfl))
 f171 := Tryd.func78.trans (congrArg some (by kernel_rfl))
 f243 := Tryd.func99.trans (congrArg some (by kernel_rfl))
 f246 := Tryd.func104.trans (congrArg some (by kernel_rfl))
 f283 := Tryd.func110.trans (congrArg some (by kernel_rfl))
 f284 := Tryd.func111.trans (congrArg some (by kernel_rfl))
 f285 := Tryd.func112.trans (congrArg some (by kernel_rfl))
 f286 := Tryd.func113.trans (congrArg some (by kernel_rfl))
 f317 := Tryd.func116.trans (congrArg some (by kernel_rfl))
 f318 := Tryd.func118.trans (congrArg some (by kernel_rfl))
 f319 := Tryd.func119.trans (congrArg some (by kernel_rfl))
 f320 := Tryd.func120.trans (congrArg some (by kernel_rfl))
 f337 := Tryd.func121.trans (congrArg some (by kernel_rfl))
 f338 := Tryd.func122.trans (congrArg some (by kernel_rfl))
 t0 := Tryd.underlying0
 a0 := Tryd.isAgg0
 z0 := Tryd.sizeOf0
 v0 := Tryd.zeroValue0
 t2 := Tryd.underlying2
 a2 := Tryd.isAgg2
 z2 := Tryd.sizeOf2
 v2 := Tryd.zeroValue2
 t3 := Tryd.underlying3
 a3 := Tryd.isAgg3
 z3 := Tryd.sizeOf3
 v3 := Tryd.zeroValue3
 t4 := Tryd.underlying4
 a4 := Tryd.isAgg4
 z4 := Tryd.sizeOf4
 v4 := Tryd.zeroValue4
 t5 := Tryd.underlying5
 a5 := Tryd.isAgg5
 z5 := Tryd.sizeOf5
 v5 := Tryd.zeroValue5
 t9 := Tryd.underlying9
 a9 := Tryd.isAgg9
 z9 := Tryd.sizeOf9
 v9 := Tryd.zeroValue9
 t20 := Tryd.underlying20
 a20 := Tryd.isAgg20
 z20 := Tryd.sizeOf20
 v20 := Tryd.zeroValue20
 t37 := Tryd.underlying22
 a37 := Tryd.isAgg22
 z37 := Tryd.sizeOf22
 v37 := Tryd.zeroValue22
 t46 := Tryd.underlying124
 a46 := Tryd.isAgg124
 z46 := Tryd.sizeOf124
 v46 := Tryd.zeroValue124
 t51 := Tryd.underlying134
 a51 := Tryd.isAgg134
 z51 := Tryd.sizeOf134
 v51 := Tryd.zeroValue134
 t53 := Tryd.underlying129
 a53 := Tryd.isAgg129
 z53 := Tryd.sizeOf129
 v53 := Tryd.zeroValue129
 t171 := Tryd.underlying128
 a171 := Tryd.isAgg128
 z171 := Tryd.sizeOf128
 v171 := Tryd.zeroValue128
 t173 := Tryd.underlying132
 a173 := Tryd.isAgg132
 z173 := Tryd.sizeOf132
 v173 := Tryd.zeroValue132
 t212 := Tryd.underlying138
 a212 := Tryd.isAgg138
 z212 := Tryd.sizeOf138
 v212 := Tryd.zeroValue138
 t213 := Tryd.underlying139
 a213 := Tryd.isAgg139
 z213 := Tryd.sizeOf139
 t232 := Tryd.underlying142
 a232 := Tryd.isAgg142
 z232 := Tryd.sizeOf142
 v232 := Tryd.zeroValue142
 t233 := Tryd.underlying143
 a233 := Tryd.isAgg143
 z233 := Tryd.sizeOf143
 v233 := Tryd.zeroValue143
 g17 := by kernel_rfl
 g18 := by kernel_rfl
 g19 := by kernel_rfl
 i0 := by kernel_rfl
 i2 := by kernel_rfl
 i3 := by kernel_rfl
 i4 := by kernel_rfl
 i5 := by kernel_rfl
 i9 := by kernel_rfl
 i20 := by kernel_rfl
 i37 := by kernel_rfl
 i46 := by kernel_rfl
 i51 := by kernel_rfl
 i53 := by kernel_rfl
 i171 := by kernel_rfl
 i173 := by kernel_rfl
 i212 := by kernel_rfl
 i232 := by kernel_rfl
 i233 := by kernel_rfl
 m17 := by kernel_rfl
 m18 := by kernel_rfl
 m19 := by kernel_rfl }
def Tryd.laysContains_ren : Go.Shelf.Ren := ⟨fun | 144 => 60 | 143 => 82 | 219 => 100 | 217 => 105 | 225 => 106 | 224 => 107 | 267 => 108 | 266 => 114 | 314 => 115 | n => n, fun | 9 => 9 | 4 => 4 | 3 => 3 | 5 => 5 | 46 => 124 | 146 => 135 | 51 => 134 | n => n, fun | 1 => 0 | n => n⟩
theorem Tryd.laysContains : Go.Proofs.Lays.n144 Tryd.prog Tryd.laysContains_ren := {
 mixed := by kernel_rfl
 f143 := Tryd.func82.trans (congrArg some (by kernel_rfl))
 f144 := Tryd.func60.trans (congrArg some (by kernel_rfl))
 f217 := Tryd.func105.trans (congrArg some (by kernel_rfl))
 f219 := Tryd.func100.trans (congrArg some (by kernel_rfl))
 f224 := Tryd.func107.trans (congrArg some (by kernel_rfl))
 f225 := Tryd.func106.trans (congrArg some (by kernel_rfl))
 f266 := Tryd.func114.trans (congrArg some (by kernel_rfl))
 f267 := Tryd.func108.trans (congrArg some (by kernel_rfl))
 f314 := Tryd.func115.trans (congrArg some (by kernel_rfl))
 t3 := Tryd.underlying3
 a3 := Tryd.isAgg3
 z3 := Tryd.sizeOf3
 v3 := Tryd.zeroValue3
 t4 := Tryd.underlying4
 a4 := Tryd.isAgg4
 z4 := Tryd.sizeOf4
 v4 := Tryd.zeroValue4
 t5 := Tryd.underlying5
 a5 := Tryd.isAgg5
 z5 := Tryd.sizeOf5
 v5 := Tryd.zeroValue5
 t9 := Tryd.underlying9
 a9 := Tryd.isAgg9
 z9 := Tryd.sizeOf9
 v9 := Tryd.zeroValue9
 t46 := Tryd.underlying124
 a46 := Tryd.isAgg124
 z46 := Tryd.sizeOf124
 v46 := Tryd.zeroValue124
 t51 := Tryd.underlying134
 a51 := Tryd.isAgg134
 z51 := Tryd.sizeOf134
 v51 := Tryd.zeroValue134
 t146 := Tryd.underlying135
 a146 := Tryd.isAgg135
 z146 := Tryd.sizeOf135
 v146 := Tryd.zeroValue135
 g1 := by kernel_rfl }
def Tryd.laysInsG_ren : Go.Shelf.Ren := ⟨fun | 20 => 90 | n => n, fun | 24 => 39 | 22 => 31 | 3 => 3 | 25 => 71 | 4 => 4 | 0 => 0 | n => n, fun | n => n⟩
def Tryd.laysIdxG_ren : Go.Shelf.Ren := ⟨fun | 6 => 36 | n => n, fun | 22 => 31 | 23 => 39 | 25 => 68 | 3 => 3 | 0 => 0 | 4 => 4 | n => n, fun | n => n⟩
end Go.Proofs
end
