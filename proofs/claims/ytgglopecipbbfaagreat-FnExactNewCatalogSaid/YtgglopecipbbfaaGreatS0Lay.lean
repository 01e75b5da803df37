/-
  DERIVED: THE SHELF's CONTRACTS AT THIS DUMP, IN PLAIN WORDS (tools/lay-plain.mjs out of 'YtgglopecipbbfaaGreatS0Lay.lean', which tools/lay-shelf.mjs wrote): THE SAME DECLARATIONS UNDER THE SAME NAMES: 'import', 'namespace', 'open', 'def', 'theorem' AND NOTHING ELSE: no command of the shelf's: FOR A HAND-IN. Each laying: the table of numbers ('.._ren') and one theorem, a field a fact of the dump's own or the kernel's comparison; each contract: ONE APPLICATION.
-/
import Derived.Ground.NamesProg
import Derived.Ground.Names2Prog
import Derived.Shelf.Sort.Plain
import Derived.Shelf.Slices.In.SortNone
import Derived.Shelf.Slices.CompactI
import Derived.Shelf.Slices.CompactS
import Derived.Test.YtgglopecipbbfaaGreatProg
namespace Go.Proofs
open Go.Shelf
def Tryz.laysSortStr_ren : Go.Shelf.Ren := ⟨fun | 190 => 273 | 125 => 306 | 258 => 305 | 128 => 327 | 129 => 328 | 302 => 318 | 303 => 319 | 304 => 320 | 305 => 321 | 306 => 322 | 307 => 323 | 308 => 324 | 309 => 325 | 310 => 326 | 333 => 333 | 329 => 334 | 330 => 335 | 334 => 336 | 335 => 337 | 336 => 338 | 344 => 339 | n => n, fun | 31 => 28 | 9 => 9 | 3 => 3 | 46 => 279 | 0 => 0 | 51 => 296 | 53 => 298 | 4 => 4 | 183 => 289 | 182 => 288 | 131 => 283 | 5 => 5 | 218 => 301 | 222 => 305 | 228 => 307 | 229 => 308 | n => n, fun | n => n⟩
theorem Tryz.laysSortStr : Go.Proofs.Lays.n190 Tryz.prog Tryz.laysSortStr_ren := {
  mixed := by kernel_rfl
  f125 := Tryz.func306.trans (congrArg some (by kernel_rfl))
  f128 := Tryz.func327.trans (congrArg some (by kernel_rfl))
  f129 := Tryz.func328.trans (congrArg some (by kernel_rfl))
  f190 := Tryz.func273.trans (congrArg some (by kernel_rfl))
  f258 := Tryz.func305.trans (congrArg some (by kernel_rfl))
  f302 := Tryz.func318.trans (congrArg some (by kernel_rfl))
  f303 := Tryz.func319.trans (congrArg some (by kernel_rfl))
  f304 := Tryz.func320.trans (congrArg some (by kernel_rfl))
  f305 := Tryz.func321.trans (congrArg some (by kernel_rfl))
  f306 := Tryz.func322.trans (congrArg some (by kernel_rfl))
  f307 := Tryz.func323.trans (congrArg some (by kernel_rfl))
  f308 := Tryz.func324.trans (congrArg some (by kernel_rfl))
  f309 := Tryz.func325.trans (congrArg some (by kernel_rfl))
  f310 := Tryz.func326.trans (congrArg some (by kernel_rfl))
  f329 := Tryz.func334.trans (congrArg some (by kernel_rfl))
  f330 := Tryz.func335.trans (congrArg some (by kernel_rfl))
  f333 := Tryz.func333.trans (congrArg some (by kernel_rfl))
  f334 := Tryz.func336.trans (congrArg some (by kernel_rfl))
  f335 := Tryz.func337.trans (congrArg some (by kernel_rfl))
  f336 := Tryz.func338.trans (congrArg some (by kernel_rfl))
  f344 := Tryz.func339.trans (congrArg some (by kernel_rfl))
  t0 := Tryz.underlying0
  a0 := Tryz.isAgg0
  z0 := Tryz.sizeOf0
  v0 := Tryz.zeroValue0
  t3 := Tryz.underlying3
  a3 := Tryz.isAgg3
  z3 := Tryz.sizeOf3
  v3 := Tryz.zeroValue3
  t4 := Tryz.underlying4
  a4 := Tryz.isAgg4
  z4 := Tryz.sizeOf4
  v4 := Tryz.zeroValue4
  t5 := Tryz.underlying5
  a5 := Tryz.isAgg5
  z5 := Tryz.sizeOf5
  v5 := Tryz.zeroValue5
  t9 := Tryz.underlying9
  a9 := Tryz.isAgg9
  z9 := Tryz.sizeOf9
  v9 := Tryz.zeroValue9
  t31 := Tryz.underlying28
  a31 := Tryz.isAgg28
  z31 := Tryz.sizeOf28
  v31 := Tryz.zeroValue28
  t46 := Tryz.underlying279
  a46 := Tryz.isAgg279
  z46 := Tryz.sizeOf279
  v46 := Tryz.zeroValue279
  t51 := Tryz.underlying296
  a51 := Tryz.isAgg296
  z51 := Tryz.sizeOf296
  v51 := Tryz.zeroValue296
  t53 := Tryz.underlying298
  a53 := Tryz.isAgg298
  z53 := Tryz.sizeOf298
  v53 := Tryz.zeroValue298
  t131 := Tryz.underlying283
  a131 := Tryz.isAgg283
  z131 := Tryz.sizeOf283
  v131 := Tryz.zeroValue283
  t182 := Tryz.underlying288
  a182 := Tryz.isAgg288
  z182 := Tryz.sizeOf288
  v182 := Tryz.zeroValue288
  t183 := Tryz.underlying289
  a183 := Tryz.isAgg289
  z183 := Tryz.sizeOf289
  v183 := Tryz.zeroValue289
  t218 := Tryz.underlying301
  a218 := Tryz.isAgg301
  z218 := Tryz.sizeOf301
  v218 := Tryz.zeroValue301
  t222 := Tryz.underlying305
  a222 := Tryz.isAgg305
  z222 := Tryz.sizeOf305
  v222 := Tryz.zeroValue305
  t228 := Tryz.underlying307
  a228 := Tryz.isAgg307
  z228 := Tryz.sizeOf307
  v228 := Tryz.zeroValue307
  t229 := Tryz.underlying308
  a229 := Tryz.isAgg308
  z229 := Tryz.sizeOf308
  v229 := Tryz.zeroValue308 }
def Tryz.laysCompactStr_ren : Go.Shelf.Ren := ⟨fun | 194 => 274 | n => n, fun | 31 => 28 | 9 => 9 | 3 => 3 | 4 => 4 | 0 => 0 | n => n, fun | n => n⟩
theorem Tryz.laysCompactStr : Go.Proofs.Lays.n194 Tryz.prog Tryz.laysCompactStr_ren := {
  mixed := by kernel_rfl
  f194 := Tryz.func274.trans (congrArg some (by kernel_rfl))
  t0 := Tryz.underlying0
  a0 := Tryz.isAgg0
  z0 := Tryz.sizeOf0
  v0 := Tryz.zeroValue0
  t3 := Tryz.underlying3
  a3 := Tryz.isAgg3
  z3 := Tryz.sizeOf3
  v3 := Tryz.zeroValue3
  t4 := Tryz.underlying4
  a4 := Tryz.isAgg4
  z4 := Tryz.sizeOf4
  v4 := Tryz.zeroValue4
  t9 := Tryz.underlying9
  a9 := Tryz.isAgg9
  z9 := Tryz.sizeOf9
  v9 := Tryz.zeroValue9
  t31 := Tryz.underlying28
  a31 := Tryz.isAgg28
  z31 := Tryz.sizeOf28
  v31 := Tryz.zeroValue28 }
end Go.Proofs
