/-
  DERIVED: THE SHELF's CONTRACTS AT THIS DUMP, IN PLAIN WORDS (tools/lay-plain.mjs out of 'YteganoldfldlhaaS0Lay.lean', which tools/lay-shelf.mjs wrote): THE SAME DECLARATIONS UNDER THE SAME NAMES: 'import', 'namespace', 'open', 'def', 'theorem' AND NOTHING ELSE: no command of the shelf's: FOR A HAND-IN. Each laying: the table of numbers ('.._ren') and one theorem, a field a fact of the dump's own or the kernel's comparison; each contract: ONE APPLICATION.
-/
import Derived.Ground.NamesProg
import Derived.Ground.Names2Prog
import Derived.Shelf.Sort.Plain
import Derived.Shelf.Slices.In.SortNone
import Derived.Shelf.Slices.CompactI
import Derived.Shelf.Slices.CompactS
import Derived.Test.YteganoldfldlhaaProg
namespace Go.Proofs
open Go.Shelf
def Try.laysSortInt_ren : Go.Shelf.Ren := ⟨fun | 189 => 204 | 125 => 225 | 257 => 224 | 128 => 241 | 129 => 242 | 294 => 232 | 295 => 233 | 296 => 234 | 297 => 235 | 298 => 236 | 299 => 237 | 216 => 238 | 300 => 239 | 301 => 240 | 328 => 252 | 329 => 253 | 330 => 254 | 331 => 255 | 332 => 256 | 215 => 201 | 343 => 260 | n => n, fun | 28 => 24 | 3 => 3 | 46 => 232 | 0 => 0 | 51 => 248 | 53 => 250 | 4 => 4 | 183 => 241 | 182 => 240 | 131 => 228 | 5 => 5 | 9 => 9 | 218 => 257 | 222 => 261 | 228 => 265 | 229 => 266 | n => n, fun | n => n⟩
def Try.laysSortStr_ren : Go.Shelf.Ren := ⟨fun | 190 => 216 | 125 => 225 | 258 => 227 | 128 => 241 | 129 => 242 | 302 => 243 | 303 => 244 | 304 => 245 | 305 => 246 | 306 => 247 | 307 => 248 | 308 => 249 | 309 => 250 | 310 => 251 | 333 => 257 | 329 => 253 | 330 => 254 | 334 => 258 | 335 => 259 | 336 => 202 | 344 => 261 | n => n, fun | 31 => 41 | 9 => 9 | 3 => 3 | 46 => 232 | 0 => 0 | 51 => 248 | 53 => 250 | 4 => 4 | 183 => 241 | 182 => 240 | 131 => 228 | 5 => 5 | 218 => 257 | 222 => 261 | 228 => 265 | 229 => 266 | n => n, fun | n => n⟩
theorem Try.laysSortStr : Go.Proofs.Lays.n190 Try.prog Try.laysSortStr_ren := {
  mixed := by kernel_rfl
  f125 := Try.func225.trans (congrArg some (by kernel_rfl))
  f128 := Try.func241.trans (congrArg some (by kernel_rfl))
  f129 := Try.func242.trans (congrArg some (by kernel_rfl))
  f190 := Try.func216.trans (congrArg some (by kernel_rfl))
  f258 := Try.func227.trans (congrArg some (by kernel_rfl))
  f302 := Try.func243.trans (congrArg some (by kernel_rfl))
  f303 := Try.func244.trans (congrArg some (by kernel_rfl))
  f304 := Try.func245.trans (congrArg some (by kernel_rfl))
  f305 := Try.func246.trans (congrArg some (by kernel_rfl))
  f306 := Try.func247.trans (congrArg some (by kernel_rfl))
  f307 := Try.func248.trans (congrArg some (by kernel_rfl))
  f308 := Try.func249.trans (congrArg some (by kernel_rfl))
  f309 := Try.func250.trans (congrArg some (by kernel_rfl))
  f310 := Try.func251.trans (congrArg some (by kernel_rfl))
  f329 := Try.func253.trans (congrArg some (by kernel_rfl))
  f330 := Try.func254.trans (congrArg some (by kernel_rfl))
  f333 := Try.func257.trans (congrArg some (by kernel_rfl))
  f334 := Try.func258.trans (congrArg some (by kernel_rfl))
  f335 := Try.func259.trans (congrArg some (by kernel_rfl))
  f336 := Try.func202.trans (congrArg some (by kernel_rfl))
  f344 := Try.func261.trans (congrArg some (by kernel_rfl))
  t0 := Try.underlying0
  a0 := Try.isAgg0
  z0 := Try.sizeOf0
  v0 := Try.zeroValue0
  t3 := Try.underlying3
  a3 := Try.isAgg3
  z3 := Try.sizeOf3
  v3 := Try.zeroValue3
  t4 := Try.underlying4
  a4 := Try.isAgg4
  z4 := Try.sizeOf4
  v4 := Try.zeroValue4
  t5 := Try.underlying5
  a5 := Try.isAgg5
  z5 := Try.sizeOf5
  v5 := Try.zeroValue5
  t9 := Try.underlying9
  a9 := Try.isAgg9
  z9 := Try.sizeOf9
  v9 := Try.zeroValue9
  t31 := Try.underlying41
  a31 := Try.isAgg41
  z31 := Try.sizeOf41
  v31 := Try.zeroValue41
  t46 := Try.underlying232
  a46 := Try.isAgg232
  z46 := Try.sizeOf232
  v46 := Try.zeroValue232
  t51 := Try.underlying248
  a51 := Try.isAgg248
  z51 := Try.sizeOf248
  v51 := Try.zeroValue248
  t53 := Try.underlying250
  a53 := Try.isAgg250
  z53 := Try.sizeOf250
  v53 := Try.zeroValue250
  t131 := Try.underlying228
  a131 := Try.isAgg228
  z131 := Try.sizeOf228
  v131 := Try.zeroValue228
  t182 := Try.underlying240
  a182 := Try.isAgg240
  z182 := Try.sizeOf240
  v182 := Try.zeroValue240
  t183 := Try.underlying241
  a183 := Try.isAgg241
  z183 := Try.sizeOf241
  v183 := Try.zeroValue241
  t218 := Try.underlying257
  a218 := Try.isAgg257
  z218 := Try.sizeOf257
  v218 := Try.zeroValue257
  t222 := Try.underlying261
  a222 := Try.isAgg261
  z222 := Try.sizeOf261
  v222 := Try.zeroValue261
  t228 := Try.underlying265
  a228 := Try.isAgg265
  z228 := Try.sizeOf265
  v228 := Try.zeroValue265
  t229 := Try.underlying266
  a229 := Try.isAgg266
  z229 := Try.sizeOf266
  v229 := Try.zeroValue266 }
def Try.laysCompactInt_ren : Go.Shelf.Ren := ⟨fun | 20 => 205 | n => n, fun | 22 => 24 | 3 => 3 | 4 => 4 | 0 => 0 | n => n, fun | n => n⟩
def Try.laysCompactStr_ren : Go.Shelf.Ren := ⟨fun | 194 => 217 | n => n, fun | 31 => 41 | 9 => 9 | 3 => 3 | 4 => 4 | 0 => 0 | n => n, fun | n => n⟩
theorem Try.laysCompactStr : Go.Proofs.Lays.n194 Try.prog Try.laysCompactStr_ren := {
  mixed := by kernel_rfl
  f194 := Try.func217.trans (congrArg some (by kernel_rfl))
  t0 := Try.underlying0
  a0 := Try.isAgg0
  z0 := Try.sizeOf0
  v0 := Try.zeroValue0
  t3 := Try.underlying3
  a3 := Try.isAgg3
  z3 := Try.sizeOf3
  v3 := Try.zeroValue3
  t4 := Try.underlying4
  a4 := Try.isAgg4
  z4 := Try.sizeOf4
  v4 := Try.zeroValue4
  t9 := Try.underlying9
  a9 := Try.isAgg9
  z9 := Try.sizeOf9
  v9 := Try.zeroValue9
  t31 := Try.underlying41
  a31 := Try.isAgg41
  z31 := Try.sizeOf41
  v31 := Try.zeroValue41 }
end Go.Proofs
