/- Joined texts. -/
import Derived.Ground.NamesProg
import Derived.Ground.Names2Prog
import Derived.Shelf.Sort.Plain
import Derived.Shelf.Slices.In.SortNone
import Derived.Shelf.Slices.CompactI
import Derived.Shelf.Slices.CompactS
import Derived.Test.YtakopfjdmmnjcaaGreatDoorProg
import Derived.Shelf.Strconv.Itoa3
import Derived.Shelf.SlGeneric
import Derived.Shelf.SlSortCmp.KitK
import Derived.Shelf.SlicesQ.IndexFunc
import Derived.Ground.SlsfProg
import Derived.Ground.SlgfProg
set_option linter.all false
section
namespace Go.Proofs
open Go.Shelf
def Tryz.laysSortStr_ren : Go.Shelf.Ren := ⟨fun | 190 => 186 | 125 => 192 | 258 => 191 | 128 => 203 | 129 => 166 | 302 => 194 | 303 => 195 | 304 => 196 | 305 => 197 | 306 => 198 | 307 => 199 | 308 => 200 | 309 => 201 | 310 => 202 | 333 => 204 | 329 => 205 | 330 => 206 | 334 => 207 | 335 => 208 | 336 => 91 | 344 => 209 | n => n, fun | 31 => 88 | 9 => 9 | 3 => 3 | 46 => 129 | 0 => 0 | 51 => 175 | 53 => 163 | 4 => 4 | 183 => 198 | 182 => 197 | 131 => 186 | 5 => 5 | 218 => 204 | 222 => 208 | 228 => 210 | 229 => 211 | n => n, fun | n => n⟩
theorem Tryz.laysSortStr : Go.Proofs.Lays.n190 Tryz.prog Tryz.laysSortStr_ren := {
 mixed := by kernel_rfl
 f125 := Tryz.func192.trans (congrArg some (by kernel_rfl))
 f128 := Tryz.func203.trans (congrArg some (by kernel_rfl))
 f129 := Tryz.func166.trans (congrArg some (by kernel_rfl))
 f190 := Tryz.func186.trans (congrArg some (by kernel_rfl))
 f258 := Tryz.func191.trans (congrArg some (by kernel_rfl))
 f302 := Tryz.func194.trans (congrArg some (by kernel_rfl))
 f303 := Tryz.func195.trans (congrArg some (by kernel_rfl))
 f304 := Tryz.func196.trans (congrArg some (by kernel_rfl))
 f305 := Tryz.func197.trans (congrArg some (by kernel_rfl))
 f306 := Tryz.func198.trans (congrArg some (by kernel_rfl))
 f307 := Tryz.func199.trans (congrArg some (by kernel_rfl))
 f308 := Tryz.func200.trans (congrArg some (by kernel_rfl))
 f309 := Tryz.func201.trans (congrArg some (by kernel_rfl))
 f310 := Tryz.func202.trans (congrArg some (by kernel_rfl))
 f329 := Tryz.func205.trans (congrArg some (by kernel_rfl))
 f330 := Tryz.func206.trans (congrArg some (by kernel_rfl))
 f333 := Tryz.func204.trans (congrArg some (by kernel_rfl))
 f334 := Tryz.func207.trans (congrArg some (by kernel_rfl))
 f335 := Tryz.func208.trans (congrArg some (by kernel_rfl))
 f336 := Tryz.func91.trans (congrArg some (by kernel_rfl))
 f344 := Tryz.func209.trans (congrArg some (by kernel_rfl))
 t0 := Tryz.underlying0
 a0 := Tryz.isAgg0
 z0 := Tryz.sizeOf0
 v0 := Tryz.zeroValue0
 t3 := Tryz.underlying3
 a3 := Tryz.isAgg3
 z3 := Tryz.sizeOf3
 v3 := Tryz.zeroValue3
 t4 := Tryz.underlying4
 a4 := Tryz.isAgg4
 z4 := Tryz.sizeOf4
 v4 := Tryz.zeroValue4
 t5 := Tryz.underlying5
 a5 := Tryz.isAgg5
 z5 := Tryz.sizeOf5
 v5 := Tryz.zeroValue5
 t9 := Tryz.underlying9
 a9 := Tryz.isAgg9
 z9 := Tryz.sizeOf9
 v9 := Tryz.zeroValue9
 t31 := Tryz.underlying88
 a31 := Tryz.isAgg88
 z31 := Tryz.sizeOf88
 v31 := Tryz.zeroValue88
 t46 := Tryz.underlying129
 a46 := Tryz.isAgg129
 z46 := Tryz.sizeOf129
 v46 := Tryz.zeroValue129
 t51 := Tryz.underlying175
 a51 := Tryz.isAgg175
 z51 := Tryz.sizeOf175
 v51 := Tryz.zeroValue175
 t53 := Tryz.underlying163
 a53 := Tryz.isAgg163
 z53 := Tryz.sizeOf163
 v53 := Tryz.zeroValue163
 t131 := Tryz.underlying186
 a131 := Tryz.isAgg186
 z131 := Tryz.sizeOf186
 v131 := Tryz.zeroValue186
 t182 := Tryz.underlying197
 a182 := Tryz.isAgg197
 z182 := Tryz.sizeOf197
 v182 := Tryz.zeroValue197
 t183 := Tryz.underlying198
 a183 := Tryz.isAgg198
 z183 := Tryz.sizeOf198
 v183 := Tryz.zeroValue198
 t218 := Tryz.underlying204
 a218 := Tryz.isAgg204
 z218 := Tryz.sizeOf204
 v218 := Tryz.zeroValue204
 t222 := Tryz.underlying208
 a222 := Tryz.isAgg208
 z222 := Tryz.sizeOf208
 v222 := Tryz.zeroValue208
 t228 := Tryz.underlying210
 a228 := Tryz.isAgg210
 z228 := Tryz.sizeOf210
 v228 := Tryz.zeroValue210
 t229 := Tryz.underlying211
 a229 := Tryz.isAgg211
 z229 := Tryz.sizeOf211
 v229 := Tryz.zeroValue211 }
def Tryz.laysCompactStr_ren : Go.Shelf.Ren := ⟨fun | 194 => 187 | n => n, fun | 31 => 88 | 9 => 9 | 3 => 3 | 4 => 4 | 0 => 0 | n => n, fun | n => n⟩
theorem Tryz.laysCompactStr : Go.Proofs.Lays.n194 Tryz.prog Tryz.laysCompactStr_ren := {
 mixed := by kernel_rfl
 f194 := Tryz.func187.trans (congrArg some (by kernel_rfl))
 t0 := Tryz.underlying0
 a0 := Tryz.isAgg0
 z0 := Tryz.sizeOf0
 v0 := Tryz.zeroValue0
 t3 := Tryz.underlying3
 a3 := Tryz.isAgg3
 z3 := Tryz.sizeOf3
 v3 := Tryz.zeroValue3
 t4 := Tryz.underlying4
 a4 := Tryz.isAgg4
 z4 := Tryz.sizeOf4
 v4 := Tryz.zeroValue4
 t9 := Tryz.underlying9
 a9 := Tryz.isAgg9
 z9 := Tryz.sizeOf9
 v9 := Tryz.zeroValue9
 t31 := Tryz.underlying88
 a31 := Tryz.isAgg88
 z31 := Tryz.sizeOf88
 v31 := Tryz.zeroValue88 }
def Tryz.laysItoa_ren : Go.Shelf.Ren := ⟨fun | 171 => 101 | 243 => 115 | 246 => 137 | 283 => 151 | 284 => 152 | 285 => 153 | 286 => 154 | 129 => 166 | 317 => 165 | 318 => 167 | 319 => 168 | 320 => 169 | 337 => 183 | 338 => 184 | n => n, fun | 3 => 3 | 9 => 9 | 2 => 2 | 4 => 4 | 171 => 162 | 0 => 0 | 53 => 163 | 37 => 22 | 5 => 5 | 173 => 166 | 212 => 174 | 51 => 175 | 20 => 20 | 213 => 176 | 46 => 129 | 232 => 192 | 233 => 193 | n => n, fun | 17 => 0 | 18 => 1 | 19 => 2 | n => n⟩
theorem Tryz.laysItoa : Go.Proofs.LaysM.n171 Tryz.prog Tryz.laysItoa_ren := {
 mixed := by kernel_rfl
 f129 := Tryz.func166.trans (congrArg some (by kernel_rfl))
 f171 := Tryz.func101.trans (congrArg some (by kernel_rfl))
 f243 := Tryz.func115.trans (congrArg some (by kernel_rfl))
 f246 := Tryz.func137.trans (congrArg some (by kernel_rfl))
 f283 := Tryz.func151.trans (congrArg some (by kernel_rfl))
 f284 := Tryz.func152.trans (congrArg some (by kernel_rfl))
 f285 := Tryz.func153.trans (congrArg some (by kernel_rfl))
 f286 := Tryz.func154.trans (congrArg some (by kernel_rfl))
 f317 := Tryz.func165.trans (congrArg some (by kernel_rfl))
 f318 := Tryz.func167.trans (congrArg some (by kernel_rfl))
 f319 := Tryz.func168.trans (congrArg some (by kernel_rfl))
 f320 := Tryz.func169.trans (congrArg some (by kernel_rfl))
 f337 := Tryz.func183.trans (congrArg some (by kernel_rfl))
 f338 := Tryz.func184.trans (congrArg some (by kernel_rfl))
 t0 := Tryz.underlying0
 a0 := Tryz.isAgg0
 z0 := Tryz.sizeOf0
 v0 := Tryz.zeroValue0
 t2 := Tryz.underlying2
 a2 := Tryz.isAgg2
 z2 := Tryz.sizeOf2
 v2 := Tryz.zeroValue2
 t3 := Tryz.underlying3
 a3 := Tryz.isAgg3
 z3 := Tryz.sizeOf3
 v3 := Tryz.zeroValue3
 t4 := Tryz.underlying4
 a4 := Tryz.isAgg4
 z4 := Tryz.sizeOf4
 v4 := Tryz.zeroValue4
 t5 := Tryz.underlying5
 a5 := Tryz.isAgg5
 z5 := Tryz.sizeOf5
 v5 := Tryz.zeroValue5
 t9 := Tryz.underlying9
 a9 := Tryz.isAgg9
 z9 := Tryz.sizeOf9
 v9 := Tryz.zeroValue9
 t20 := Tryz.underlying20
 a20 := Tryz.isAgg20
 z20 := Tryz.sizeOf20
 v20 := Tryz.zeroValue20
 t37 := Tryz.underlying22
 a37 := Tryz.isAgg22
 z37 := Tryz.sizeOf22
 v37 := Tryz.zeroValue22
 t46 := Tryz.underlying129
 a46 := Tryz.isAgg129
 z46 := Tryz.sizeOf129
 v46 := Tryz.zeroValue129
 t51 := Tryz.underlying175
 a51 := Tryz.isAgg175
 z51 := Tryz.sizeOf175
 v51 := Tryz.zeroValue175
 t53 := Tryz.underlying163
 a53 := Tryz.isAgg163
 z53 := Tryz.sizeOf163
 v53 := Tryz.zeroValue163
 t171 := Tryz.underlying162
 a171 := Tryz.isAgg162
 z171 := Tryz.sizeOf162
 v171 := Tryz.zeroValue162
 t173 := Tryz.underlying166
 a173 := Tryz.isAgg166
 z173 := Tryz.sizeOf166
 v173 := Tryz.zeroValue166
 t212 := Tryz.underlying174
 a212 := Tryz.isAgg174
 z212 := Tryz.sizeOf174
 v212 := Tryz.zeroValue174
 t213 := Tryz.underlying176
 a213 := Tryz.isAgg176
 z213 := Tryz.sizeOf176
 t232 := Tryz.underlying192
 a232 := Tryz.isAgg192
 z232 := Tryz.sizeOf192
 v232 := Tryz.zeroValue192
 t233 := Tryz.underlying193
 a233 := Tryz.isAgg193
 z233 := Tryz.sizeOf193
 v233 := Tryz.zeroValue193
 g17 := by kernel_rfl
 g18 := by kernel_rfl
 g19 := by kernel_rfl
 i0 := by kernel_rfl
 i2 := by kernel_rfl
 i3 := by kernel_rfl
 i4 := by kernel_rfl
 i5 := by kernel_rfl
 i9 := by kernel_rfl
 i20 := by kernel_rfl
 i37 := by kernel_rfl
 i46 := by kernel_rfl
 i51 := by kernel_rfl
 i53 := by kernel_rfl
 i171 := by kernel_rfl
 i173 := by kernel_rfl
 i212 := by kernel_rfl
 i232 := by kernel_rfl
 i233 := by kernel_rfl
 m17 := by kernel_rfl
 m18 := by kernel_rfl
 m19 := by kernel_rfl }
def Tryz.laysInsG_ren : Go.Shelf.Ren := ⟨fun | 20 => 88 | n => n, fun | 24 => 49 | 22 => 31 | 3 => 3 | 25 => 65 | 4 => 4 | 0 => 0 | n => n, fun | n => n⟩
def Tryz.laysIdxG_ren : Go.Shelf.Ren := ⟨fun | 6 => 30 | n => n, fun | 22 => 31 | 23 => 49 | 25 => 63 | 3 => 3 | 0 => 0 | 4 => 4 | n => n, fun | n => n⟩
end Go.Proofs
end
