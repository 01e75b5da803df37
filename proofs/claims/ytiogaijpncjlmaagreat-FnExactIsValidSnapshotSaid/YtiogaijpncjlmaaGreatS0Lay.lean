/-
  DERIVED: THE SHELF's CONTRACTS AT THIS DUMP, IN PLAIN WORDS (tools/lay-plain.mjs out of 'YtiogaijpncjlmaaGreatS0Lay.lean', which tools/lay-shelf.mjs wrote): THE SAME DECLARATIONS UNDER THE SAME NAMES: 'import', 'namespace', 'open', 'def', 'theorem' AND NOTHING ELSE: no command of the shelf's: FOR A HAND-IN. Each laying: the table of numbers ('.._ren') and one theorem, a field a fact of the dump's own or the kernel's comparison; each contract: ONE APPLICATION.
-/
import Derived.Ground.NamesProg
import Derived.Ground.Names2Prog
import Derived.Shelf.Sort.Plain
import Derived.Shelf.Slices.In.SortNone
import Derived.Shelf.Slices.CompactI
import Derived.Shelf.Slices.CompactS
import Derived.Test.YtiogaijpncjlmaaGreatProg
namespace Go.Proofs
open Go.Shelf
def Tryz.laysSortStr_ren : Go.Shelf.Ren := ⟨fun | 190 => 96 | 125 => 99 | 258 => 98 | 128 => 109 | 129 => 110 | 302 => 100 | 303 => 101 | 304 => 102 | 305 => 103 | 306 => 104 | 307 => 105 | 308 => 106 | 309 => 107 | 310 => 108 | 333 => 111 | 329 => 112 | 330 => 113 | 334 => 114 | 335 => 115 | 336 => 116 | 344 => 117 | n => n, fun | 31 => 95 | 9 => 9 | 3 => 3 | 46 => 137 | 0 => 0 | 51 => 148 | 53 => 150 | 4 => 4 | 183 => 140 | 182 => 139 | 131 => 145 | 5 => 5 | 218 => 151 | 222 => 155 | 228 => 157 | 229 => 158 | n => n, fun | n => n⟩
theorem Tryz.laysSortStr : Go.Proofs.Lays.n190 Tryz.prog Tryz.laysSortStr_ren := {
  mixed := by kernel_rfl
  f125 := Tryz.func99.trans (congrArg some (by kernel_rfl))
  f128 := Tryz.func109.trans (congrArg some (by kernel_rfl))
  f129 := Tryz.func110.trans (congrArg some (by kernel_rfl))
  f190 := Tryz.func96.trans (congrArg some (by kernel_rfl))
  f258 := Tryz.func98.trans (congrArg some (by kernel_rfl))
  f302 := Tryz.func100.trans (congrArg some (by kernel_rfl))
  f303 := Tryz.func101.trans (congrArg some (by kernel_rfl))
  f304 := Tryz.func102.trans (congrArg some (by kernel_rfl))
  f305 := Tryz.func103.trans (congrArg some (by kernel_rfl))
  f306 := Tryz.func104.trans (congrArg some (by kernel_rfl))
  f307 := Tryz.func105.trans (congrArg some (by kernel_rfl))
  f308 := Tryz.func106.trans (congrArg some (by kernel_rfl))
  f309 := Tryz.func107.trans (congrArg some (by kernel_rfl))
  f310 := Tryz.func108.trans (congrArg some (by kernel_rfl))
  f329 := Tryz.func112.trans (congrArg some (by kernel_rfl))
  f330 := Tryz.func113.trans (congrArg some (by kernel_rfl))
  f333 := Tryz.func111.trans (congrArg some (by kernel_rfl))
  f334 := Tryz.func114.trans (congrArg some (by kernel_rfl))
  f335 := Tryz.func115.trans (congrArg some (by kernel_rfl))
  f336 := Tryz.func116.trans (congrArg some (by kernel_rfl))
  f344 := Tryz.func117.trans (congrArg some (by kernel_rfl))
  t0 := Tryz.underlying0
  a0 := Tryz.isAgg0
  z0 := Tryz.sizeOf0
  v0 := Tryz.zeroValue0
  t3 := Tryz.underlying3
  a3 := Tryz.isAgg3
  z3 := Tryz.sizeOf3
  v3 := Tryz.zeroValue3
  t4 := Tryz.underlying4
  a4 := Tryz.isAgg4
  z4 := Tryz.sizeOf4
  v4 := Tryz.zeroValue4
  t5 := Tryz.underlying5
  a5 := Tryz.isAgg5
  z5 := Tryz.sizeOf5
  v5 := Tryz.zeroValue5
  t9 := Tryz.underlying9
  a9 := Tryz.isAgg9
  z9 := Tryz.sizeOf9
  v9 := Tryz.zeroValue9
  t31 := Tryz.underlying95
  a31 := Tryz.isAgg95
  z31 := Tryz.sizeOf95
  v31 := Tryz.zeroValue95
  t46 := Tryz.underlying137
  a46 := Tryz.isAgg137
  z46 := Tryz.sizeOf137
  v46 := Tryz.zeroValue137
  t51 := Tryz.underlying148
  a51 := Tryz.isAgg148
  z51 := Tryz.sizeOf148
  v51 := Tryz.zeroValue148
  t53 := Tryz.underlying150
  a53 := Tryz.isAgg150
  z53 := Tryz.sizeOf150
  v53 := Tryz.zeroValue150
  t131 := Tryz.underlying145
  a131 := Tryz.isAgg145
  z131 := Tryz.sizeOf145
  v131 := Tryz.zeroValue145
  t182 := Tryz.underlying139
  a182 := Tryz.isAgg139
  z182 := Tryz.sizeOf139
  v182 := Tryz.zeroValue139
  t183 := Tryz.underlying140
  a183 := Tryz.isAgg140
  z183 := Tryz.sizeOf140
  v183 := Tryz.zeroValue140
  t218 := Tryz.underlying151
  a218 := Tryz.isAgg151
  z218 := Tryz.sizeOf151
  v218 := Tryz.zeroValue151
  t222 := Tryz.underlying155
  a222 := Tryz.isAgg155
  z222 := Tryz.sizeOf155
  v222 := Tryz.zeroValue155
  t228 := Tryz.underlying157
  a228 := Tryz.isAgg157
  z228 := Tryz.sizeOf157
  v228 := Tryz.zeroValue157
  t229 := Tryz.underlying158
  a229 := Tryz.isAgg158
  z229 := Tryz.sizeOf158
  v229 := Tryz.zeroValue158 }
def Tryz.laysCompactStr_ren : Go.Shelf.Ren := ⟨fun | 194 => 97 | n => n, fun | 31 => 95 | 9 => 9 | 3 => 3 | 4 => 4 | 0 => 0 | n => n, fun | n => n⟩
theorem Tryz.laysCompactStr : Go.Proofs.Lays.n194 Tryz.prog Tryz.laysCompactStr_ren := {
  mixed := by kernel_rfl
  f194 := Tryz.func97.trans (congrArg some (by kernel_rfl))
  t0 := Tryz.underlying0
  a0 := Tryz.isAgg0
  z0 := Tryz.sizeOf0
  v0 := Tryz.zeroValue0
  t3 := Tryz.underlying3
  a3 := Tryz.isAgg3
  z3 := Tryz.sizeOf3
  v3 := Tryz.zeroValue3
  t4 := Tryz.underlying4
  a4 := Tryz.isAgg4
  z4 := Tryz.sizeOf4
  v4 := Tryz.zeroValue4
  t9 := Tryz.underlying9
  a9 := Tryz.isAgg9
  z9 := Tryz.sizeOf9
  v9 := Tryz.zeroValue9
  t31 := Tryz.underlying95
  a31 := Tryz.isAgg95
  z31 := Tryz.sizeOf95
  v31 := Tryz.zeroValue95 }
end Go.Proofs
