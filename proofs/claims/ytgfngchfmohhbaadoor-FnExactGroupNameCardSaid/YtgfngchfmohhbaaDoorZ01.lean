/- Joined texts. -/
import Derived.Ground.NamesProg
import Derived.Ground.Names2Prog
import Derived.Shelf.Sort.Plain
import Derived.Shelf.Slices.In.SortNone
import Derived.Shelf.Slices.CompactI
import Derived.Shelf.Slices.CompactS
import Derived.Test.YtgfngchfmohhbaaDoorProg
import Derived.Shelf.Strconv.Itoa3
import Derived.Room.Shelf.Join48
import Derived.Shelf.Strings.Search3
set_option linter.all false
section
namespace Go.Proofs
open Go.Shelf
def Tryd.laysItoa_ren : Go.Shelf.Ren := ⟨fun | 171 => 66 | 243 => 85 | 246 => 97 | 283 => 104 | 284 => 105 | 285 => 106 | 286 => 107 | 129 => 111 | 317 => 110 | 318 => 112 | 319 => 113 | 320 => 114 | 337 => 115 | 338 => 116 | n => n, fun | 3 => 3 | 9 => 9 | 2 => 2 | 4 => 4 | 171 => 130 | 0 => 0 | 53 => 131 | 37 => 93 | 5 => 5 | 173 => 134 | 212 => 140 | 51 => 136 | 20 => 20 | 213 => 141 | 46 => 129 | 232 => 145 | 233 => 146 | n => n, fun | 17 => 1 | 18 => 2 | 19 => 3 | n => n⟩
theorem Tryd.laysItoa : Go.Proofs.LaysM.n171 Tryd.prog Tryd.laysItoa_ren := {
 mixed := by kernel_rfl
 f129 := Tryd.func111.trans (congrArg some (by kernel_rfl))
 f171 := Tryd.func66.trans (congrArg some (by kernel_rfl))
 f243 := Tryd.func85.trans (congrArg some (by kernel_rfl))
 f246 := Tryd.func97.trans (congrArg some (by kernel_rfl))
 f283 := Tryd.func104.trans (congrArg some (by kernel_rfl))
 f284 := Tryd.func105.trans (congrArg some (by kernel_rfl))
 f285 := Tryd.func106.trans (congrArg some (by kernel_rfl))
 f286 := Tryd.func107.trans (congrArg some (by kernel_rfl))
 f317 := Tryd.func110.trans (congrArg some (by kernel_rfl))
 f318 := Tryd.func112.trans (congrArg some (by kernel_rfl))
 f319 := Tryd.func113.trans (congrArg some (by kernel_rfl))
 f320 := Tryd.func114.trans (congrArg some (by kernel_rfl))
 f337 := Tryd.func115.trans (congrArg some (by kernel_rfl))
 f338 := Tryd.func116.trans (congrArg some (by kernel_rfl))
 t0 := Tryd.underlying0
 a0 := Tryd.isAgg0
 z0 := Tryd.sizeOf0
 v0 := Tryd.zeroValue0
 t2 := Tryd.underlying2
 a2 := Tryd.isAgg2
 z2 := Tryd.sizeOf2
 v2 := Tryd.zeroValue2
 t3 := Tryd.underlying3
 a3 := Tryd.isAgg3
 z3 := Tryd.sizeOf3
 v3 := Tryd.zeroValue3
 t4 := Tryd.underlying4
 a4 := Tryd.isAgg4
 z4 := Tryd.sizeOf4
 v4 := Tryd.zeroValue4
 t5 := Tryd.underlying5
 a5 := Tryd.isAgg5
 z5 := Tryd.sizeOf5
 v5 := Tryd.zeroValue5
 t9 := Tryd.underlying9
 a9 := Tryd.isAgg9
 z9 := Tryd.sizeOf9
 v9 := Tryd.zeroValue9
 t20 := Tryd.underlying20
 a20 := Tryd.isAgg20
 z20 := Tryd.sizeOf20
 v20 := Tryd.zeroValue20
 t37 := Tryd.underlying93
 a37 := Tryd.isAgg93
 z37 := Tryd.sizeOf93
 v37 := Tryd.zeroValue93
 t46 := Tryd.underlying129
 a46 := Tryd.isAgg129
 z46 := Tryd.sizeOf129
 v46 := Tryd.zeroValue129
 t51 := Tryd.underlying136
 a51 := Tryd.isAgg136
 z51 := Tryd.sizeOf136
 v51 := Tryd.zeroValue136
 t53 := Tryd.underlying131
 a53 := Tryd.isAgg131
 z53 := Tryd.sizeOf131
 v53 := Tryd.zeroValue131
 t171 := Tryd.underlying130
 a171 := Tryd.isAgg130
 z171 := Tryd.sizeOf130
 v171 := Tryd.zeroValue130
 t173 := Tryd.underlying134
 a173 := Tryd.isAgg134
 z173 := Tryd.sizeOf134
 v173 := Tryd.zeroValue134
 t212 := Tryd.underlying140
 a212 := Tryd.isAgg140
 z212 := Tryd.sizeOf140
 v212 := Tryd.zeroValue140
 t213 := Tryd.underlying141
 a213 := Tryd.isAgg141
 z213 := Tryd.sizeOf141
 t232 := Tryd.underlying145
 a232 := Tryd.isAgg145
 z232 := Tryd.sizeOf145
 v232 := Tryd.zeroValue145
 t233 := Tryd.underlying146
 a233 := Tryd.isAgg146
 z233 := Tryd.sizeOf146
 v233 := Tryd.zeroValue146
 g17 := by kernel_rfl
 g18 := by kernel_rfl
 g19 := by kernel_rfl
 i0 := by kernel_rfl
 i2 := by kernel_rfl
 i3 := by kernel_rfl
 i4 := by kernel_rfl
 i5 := by kernel_rfl
 i9 := by kernel_rfl
 i20 := by kernel_rfl
 i37 := by kernel_rfl
 i46 := by kernel_rfl
 i51 := by kernel_rfl
 i53 := by kernel_rfl
 i171 := by kernel_rfl
 i173 := by kernel_rfl
 i212 := by kernel_rfl
 i232 := by kernel_rfl
 i233 := by kernel_rfl
 m17 := by kernel_rfl
 m18 := by kernel_rfl
 m19 := by kernel_rfl }
def Tryd.laysJoin_ren : Go.Shelf.Ren := ⟨fun | 156 => 43 | 165 => 67 | 166 => 68 | 169 => 69 | 240 => 86 | 241 => 87 | 276 => 98 | 277 => 99 | n => n, fun | 31 => 59 | 9 => 9 | 3 => 3 | 4 => 4 | 0 => 0 | 20 => 20 | 72 => 97 | 76 => 101 | 70 => 95 | 37 => 93 | 75 => 100 | 127 => 117 | 164 => 124 | 5 => 5 | 80 => 103 | n => n, fun | n => n⟩
def Tryd.laysContains_ren : Go.Shelf.Ren := ⟨fun | 144 => 60 | 143 => 80 | 219 => 95 | 217 => 100 | 225 => 101 | 224 => 102 | 267 => 103 | 266 => 108 | 314 => 109 | n => n, fun | 9 => 9 | 4 => 4 | 3 => 3 | 5 => 5 | 46 => 129 | 146 => 137 | 51 => 136 | n => n, fun | 1 => 0 | n => n⟩
end Go.Proofs
end
