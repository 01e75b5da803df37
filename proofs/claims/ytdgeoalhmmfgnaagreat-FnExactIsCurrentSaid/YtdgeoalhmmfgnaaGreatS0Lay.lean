/- DERIVED: THE SHELF's CONTRACTS AT THIS DUMP, IN PLAIN WORDS (tools/lay-plain.mjs out of 'YtdgeoalhmmfgnaaGreatS0Lay.lean', which tools/lay-shelf.mjs wrote): THE SAME DECLARATIONS UNDER THE SAME NAMES: 'import', 'namespace', 'open', 'def', 'theorem' AND NOTHING ELSE: no command of the shelf's: FOR A HAND-IN. Each laying: the table of numbers ('.._ren') and one theorem, a field a fact of the dump's own or the kernel's comparison; each contract: ONE APPLICATION. -/
import Derived.Ground.NamesProg
import Derived.Ground.Names2Prog
import Derived.Shelf.Sort.Plain
import Derived.Shelf.Slices.In.SortNone
import Derived.Shelf.Slices.CompactI
import Derived.Shelf.Slices.CompactS
import Derived.Test.YtdgeoalhmmfgnaaGreatProg
namespace Go.Proofs
open Go.Shelf
def Tryz.laysSortStr_ren : Go.Shelf.Ren := ⟨fun | 190 => 151 | 125 => 155 | 258 => 154 | 128 => 166 | 129 => 167 | 302 => 157 | 303 => 158 | 304 => 159 | 305 => 160 | 306 => 161 | 307 => 162 | 308 => 163 | 309 => 164 | 310 => 165 | 333 => 168 | 329 => 169 | 330 => 170 | 334 => 171 | 335 => 172 | 336 => 173 | 344 => 174 | n => n, fun | 31 => 43 | 9 => 9 | 3 => 3 | 46 => 181 | 0 => 0 | 51 => 191 | 53 => 193 | 4 => 4 | 183 => 184 | 182 => 183 | 131 => 176 | 5 => 5 | 218 => 194 | 222 => 198 | 228 => 200 | 229 => 201 | n => n, fun | n => n⟩
theorem Tryz.laysSortStr : Go.Proofs.Lays.n190 Tryz.prog Tryz.laysSortStr_ren := {
 mixed := by kernel_rfl
 f125 := Tryz.func155.trans (congrArg some (by kernel_rfl))
 f128 := Tryz.func166.trans (congrArg some (by kernel_rfl))
 f129 := Tryz.func167.trans (congrArg some (by kernel_rfl))
 f190 := Tryz.func151.trans (congrArg some (by kernel_rfl))
 f258 := Tryz.func154.trans (congrArg some (by kernel_rfl))
 f302 := Tryz.func157.trans (congrArg some (by kernel_rfl))
 f303 := Tryz.func158.trans (congrArg some (by kernel_rfl))
 f304 := Tryz.func159.trans (congrArg some (by kernel_rfl))
 f305 := Tryz.func160.trans (congrArg some (by kernel_rfl))
 f306 := Tryz.func161.trans (congrArg some (by kernel_rfl))
 f307 := Tryz.func162.trans (congrArg some (by kernel_rfl))
 f308 := Tryz.func163.trans (congrArg some (by kernel_rfl))
 f309 := Tryz.func164.trans (congrArg some (by kernel_rfl))
 f310 := Tryz.func165.trans (congrArg some (by kernel_rfl))
 f329 := Tryz.func169.trans (congrArg some (by kernel_rfl))
 f330 := Tryz.func170.trans (congrArg some (by kernel_rfl))
 f333 := Tryz.func168.trans (congrArg some (by kernel_rfl))
 f334 := Tryz.func171.trans (congrArg some (by kernel_rfl))
 f335 := Tryz.func172.trans (congrArg some (by kernel_rfl))
 f336 := Tryz.func173.trans (congrArg some (by kernel_rfl))
 f344 := Tryz.func174.trans (congrArg some (by kernel_rfl))
 t0 := Tryz.underlying0
 a0 := Tryz.isAgg0
 z0 := Tryz.sizeOf0
 v0 := Tryz.zeroValue0
 t3 := Tryz.underlying3
 a3 := Tryz.isAgg3
 z3 := Tryz.sizeOf3
 v3 := Tryz.zeroValue3
 t4 := Tryz.underlying4
 a4 := Tryz.isAgg4
 z4 := Tryz.sizeOf4
 v4 := Tryz.zeroValue4
 t5 := Tryz.underlying5
 a5 := Tryz.isAgg5
 z5 := Tryz.sizeOf5
 v5 := Tryz.zeroValue5
 t9 := Tryz.underlying9
 a9 := Tryz.isAgg9
 z9 := Tryz.sizeOf9
 v9 := Tryz.zeroValue9
 t31 := Tryz.underlying43
 a31 := Tryz.isAgg43
 z31 := Tryz.sizeOf43
 v31 := Tryz.zeroValue43
 t46 := Tryz.underlying181
 a46 := Tryz.isAgg181
 z46 := Tryz.sizeOf181
 v46 := Tryz.zeroValue181
 t51 := Tryz.underlying191
 a51 := Tryz.isAgg191
 z51 := Tryz.sizeOf191
 v51 := Tryz.zeroValue191
 t53 := Tryz.underlying193
 a53 := Tryz.isAgg193
 z53 := Tryz.sizeOf193
 v53 := Tryz.zeroValue193
 t131 := Tryz.underlying176
 a131 := Tryz.isAgg176
 z131 := Tryz.sizeOf176
 v131 := Tryz.zeroValue176
 t182 := Tryz.underlying183
 a182 := Tryz.isAgg183
 z182 := Tryz.sizeOf183
 v182 := Tryz.zeroValue183
 t183 := Tryz.underlying184
 a183 := Tryz.isAgg184
 z183 := Tryz.sizeOf184
 v183 := Tryz.zeroValue184
 t218 := Tryz.underlying194
 a218 := Tryz.isAgg194
 z218 := Tryz.sizeOf194
 v218 := Tryz.zeroValue194
 t222 := Tryz.underlying198
 a222 := Tryz.isAgg198
 z222 := Tryz.sizeOf198
 v222 := Tryz.zeroValue198
 t228 := Tryz.underlying200
 a228 := Tryz.isAgg200
 z228 := Tryz.sizeOf200
 v228 := Tryz.zeroValue200
 t229 := Tryz.underlying201
 a229 := Tryz.isAgg201
 z229 := Tryz.sizeOf201
 v229 := Tryz.zeroValue201 }
def Tryz.laysCompactStr_ren : Go.Shelf.Ren := ⟨fun | 194 => 152 | n => n, fun | 31 => 43 | 9 => 9 | 3 => 3 | 4 => 4 | 0 => 0 | n => n, fun | n => n⟩
theorem Tryz.laysCompactStr : Go.Proofs.Lays.n194 Tryz.prog Tryz.laysCompactStr_ren := {
 mixed := by kernel_rfl
 f194 := Tryz.func152.trans (congrArg some (by kernel_rfl))
 t0 := Tryz.underlying0
 a0 := Tryz.isAgg0
 z0 := Tryz.sizeOf0
 v0 := Tryz.zeroValue0
 t3 := Tryz.underlying3
 a3 := Tryz.isAgg3
 z3 := Tryz.sizeOf3
 v3 := Tryz.zeroValue3
 t4 := Tryz.underlying4
 a4 := Tryz.isAgg4
 z4 := Tryz.sizeOf4
 v4 := Tryz.zeroValue4
 t9 := Tryz.underlying9
 a9 := Tryz.isAgg9
 z9 := Tryz.sizeOf9
 v9 := Tryz.zeroValue9
 t31 := Tryz.underlying43
 a31 := Tryz.isAgg43
 z31 := Tryz.sizeOf43
 v31 := Tryz.zeroValue43 }
end Go.Proofs
