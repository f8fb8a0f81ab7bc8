/- The contracts of slices.Sort and slices.Compact at strings at this program: laid off the kit's shelf by its own command, in plain words. -/
import Derived.Test.YtbhjdinjoonngaaProg
import Derived.WalkKit
import Derived.Ground.NamesProg
import Derived.Shelf.Sort.Plain
import Derived.Shelf.Slices.In.CompactS
import Derived.Shelf.Slices.In.SortNone
set_option linter.all false
namespace Go.Proofs
open Go.Shelf
def Try.laysSort_ren : Go.Shelf.Ren := ⟨fun | 190 => 92 | 125 => 136 | 258 => 135 | 128 => 151 | 129 => 152 | 302 => 143 | 303 => 144 | 304 => 145 | 305 => 146 | 306 => 147 | 307 => 148 | 308 => 140 | 309 => 149 | 310 => 150 | 333 => 155 | 329 => 156 | 330 => 157 | 334 => 158 | 335 => 159 | 336 => 153 | 344 => 160 | n => n, fun | 31 => 67 | 9 => 9 | 3 => 3 | 46 => 209 | 0 => 0 | 51 => 224 | 53 => 226 | 4 => 4 | 183 => 218 | 182 => 217 | 131 => 176 | 5 => 5 | 218 => 227 | 222 => 231 | 228 => 233 | 229 => 183 | n => n, fun | n => n⟩
theorem Try.laysSort : Go.Proofs.Lays.n190 Try.prog Try.laysSort_ren := {
  mixed := by kernel_rfl
  f125 := Try.func136.trans (congrArg some (by kernel_rfl))
  f128 := Try.func151.trans (congrArg some (by kernel_rfl))
  f129 := Try.func152.trans (congrArg some (by kernel_rfl))
  f190 := Try.func92.trans (congrArg some (by kernel_rfl))
  f258 := Try.func135.trans (congrArg some (by kernel_rfl))
  f302 := Try.func143.trans (congrArg some (by kernel_rfl))
  f303 := Try.func144.trans (congrArg some (by kernel_rfl))
  f304 := Try.func145.trans (congrArg some (by kernel_rfl))
  f305 := Try.func146.trans (congrArg some (by kernel_rfl))
  f306 := Try.func147.trans (congrArg some (by kernel_rfl))
  f307 := Try.func148.trans (congrArg some (by kernel_rfl))
  f308 := Try.func140.trans (congrArg some (by kernel_rfl))
  f309 := Try.func149.trans (congrArg some (by kernel_rfl))
  f310 := Try.func150.trans (congrArg some (by kernel_rfl))
  f329 := Try.func156.trans (congrArg some (by kernel_rfl))
  f330 := Try.func157.trans (congrArg some (by kernel_rfl))
  f333 := Try.func155.trans (congrArg some (by kernel_rfl))
  f334 := Try.func158.trans (congrArg some (by kernel_rfl))
  f335 := Try.func159.trans (congrArg some (by kernel_rfl))
  f336 := Try.func153.trans (congrArg some (by kernel_rfl))
  f344 := Try.func160.trans (congrArg some (by kernel_rfl))
  t0 := Try.underlying0
  a0 := Try.isAgg0
  z0 := Try.sizeOf0
  v0 := Try.zeroValue0
  t3 := Try.underlying3
  a3 := Try.isAgg3
  z3 := Try.sizeOf3
  v3 := Try.zeroValue3
  t4 := Try.underlying4
  a4 := Try.isAgg4
  z4 := Try.sizeOf4
  v4 := Try.zeroValue4
  t5 := Try.underlying5
  a5 := Try.isAgg5
  z5 := Try.sizeOf5
  v5 := Try.zeroValue5
  t9 := Try.underlying9
  a9 := Try.isAgg9
  z9 := Try.sizeOf9
  v9 := Try.zeroValue9
  t31 := Try.underlying67
  a31 := Try.isAgg67
  z31 := Try.sizeOf67
  v31 := Try.zeroValue67
  t46 := Try.underlying209
  a46 := Try.isAgg209
  z46 := Try.sizeOf209
  v46 := Try.zeroValue209
  t51 := Try.underlying224
  a51 := Try.isAgg224
  z51 := Try.sizeOf224
  v51 := Try.zeroValue224
  t53 := Try.underlying226
  a53 := Try.isAgg226
  z53 := Try.sizeOf226
  v53 := Try.zeroValue226
  t131 := Try.underlying176
  a131 := Try.isAgg176
  z131 := Try.sizeOf176
  v131 := Try.zeroValue176
  t182 := Try.underlying217
  a182 := Try.isAgg217
  z182 := Try.sizeOf217
  v182 := Try.zeroValue217
  t183 := Try.underlying218
  a183 := Try.isAgg218
  z183 := Try.sizeOf218
  v183 := Try.zeroValue218
  t218 := Try.underlying227
  a218 := Try.isAgg227
  z218 := Try.sizeOf227
  v218 := Try.zeroValue227
  t222 := Try.underlying231
  a222 := Try.isAgg231
  z222 := Try.sizeOf231
  v222 := Try.zeroValue231
  t228 := Try.underlying233
  a228 := Try.isAgg233
  z228 := Try.sizeOf233
  v228 := Try.zeroValue233
  t229 := Try.underlying183
  a229 := Try.isAgg183
  z229 := Try.sizeOf183
  v229 := Try.zeroValue183 }
def Try.laysCompact_ren : Go.Shelf.Ren := ⟨fun | 194 => 93 | n => n, fun | 31 => 67 | 9 => 9 | 3 => 3 | 4 => 4 | 0 => 0 | n => n, fun | n => n⟩
theorem Try.laysCompact : Go.Proofs.Lays.n194 Try.prog Try.laysCompact_ren := {
  mixed := by kernel_rfl
  f194 := Try.func93.trans (congrArg some (by kernel_rfl))
  t0 := Try.underlying0
  a0 := Try.isAgg0
  z0 := Try.sizeOf0
  v0 := Try.zeroValue0
  t3 := Try.underlying3
  a3 := Try.isAgg3
  z3 := Try.sizeOf3
  v3 := Try.zeroValue3
  t4 := Try.underlying4
  a4 := Try.isAgg4
  z4 := Try.sizeOf4
  v4 := Try.zeroValue4
  t9 := Try.underlying9
  a9 := Try.isAgg9
  z9 := Try.sizeOf9
  v9 := Try.zeroValue9
  t31 := Try.underlying67
  a31 := Try.isAgg67
  z31 := Try.sizeOf67
  v31 := Try.zeroValue67 }
end Go.Proofs
