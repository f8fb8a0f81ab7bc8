/- The contracts of slices.Sort and slices.Compact at strings at this program: laid off the kit's shelf by its own command, in plain words. -/
import Derived.Test.YtokiekachlmigaaDoorProg
import Derived.WalkKit
import Derived.Ground.NamesProg
import Derived.Shelf.Sort.Plain
import Derived.Shelf.Slices.In.CompactS
import Derived.Shelf.Slices.In.SortNone
set_option linter.all false
namespace Go.Proofs
open Go.Shelf
def Tryd.laysSort_ren : Go.Shelf.Ren := ⟨fun | 190 => 55 | 125 => 109 | 258 => 108 | 128 => 152 | 129 => 153 | 302 => 144 | 303 => 145 | 304 => 146 | 305 => 147 | 306 => 148 | 307 => 149 | 308 => 110 | 309 => 150 | 310 => 151 | 333 => 181 | 329 => 182 | 330 => 183 | 334 => 184 | 335 => 185 | 336 => 154 | 344 => 208 | n => n, fun | 31 => 26 | 9 => 9 | 3 => 3 | 46 => 166 | 0 => 0 | 51 => 200 | 53 => 202 | 4 => 4 | 183 => 194 | 182 => 193 | 131 => 98 | 5 => 5 | 218 => 227 | 222 => 231 | 228 => 243 | 229 => 134 | n => n, fun | n => n⟩
theorem Tryd.laysSort : Go.Proofs.Lays.n190 Tryd.prog Tryd.laysSort_ren := {
  mixed := by kernel_rfl
  f125 := Tryd.func109.trans (congrArg some (by kernel_rfl))
  f128 := Tryd.func152.trans (congrArg some (by kernel_rfl))
  f129 := Tryd.func153.trans (congrArg some (by kernel_rfl))
  f190 := Tryd.func55.trans (congrArg some (by kernel_rfl))
  f258 := Tryd.func108.trans (congrArg some (by kernel_rfl))
  f302 := Tryd.func144.trans (congrArg some (by kernel_rfl))
  f303 := Tryd.func145.trans (congrArg some (by kernel_rfl))
  f304 := Tryd.func146.trans (congrArg some (by kernel_rfl))
  f305 := Tryd.func147.trans (congrArg some (by kernel_rfl))
  f306 := Tryd.func148.trans (congrArg some (by kernel_rfl))
  f307 := Tryd.func149.trans (congrArg some (by kernel_rfl))
  f308 := Tryd.func110.trans (congrArg some (by kernel_rfl))
  f309 := Tryd.func150.trans (congrArg some (by kernel_rfl))
  f310 := Tryd.func151.trans (congrArg some (by kernel_rfl))
  f329 := Tryd.func182.trans (congrArg some (by kernel_rfl))
  f330 := Tryd.func183.trans (congrArg some (by kernel_rfl))
  f333 := Tryd.func181.trans (congrArg some (by kernel_rfl))
  f334 := Tryd.func184.trans (congrArg some (by kernel_rfl))
  f335 := Tryd.func185.trans (congrArg some (by kernel_rfl))
  f336 := Tryd.func154.trans (congrArg some (by kernel_rfl))
  f344 := Tryd.func208.trans (congrArg some (by kernel_rfl))
  t0 := Tryd.underlying0
  a0 := Tryd.isAgg0
  z0 := Tryd.sizeOf0
  v0 := Tryd.zeroValue0
  t3 := Tryd.underlying3
  a3 := Tryd.isAgg3
  z3 := Tryd.sizeOf3
  v3 := Tryd.zeroValue3
  t4 := Tryd.underlying4
  a4 := Tryd.isAgg4
  z4 := Tryd.sizeOf4
  v4 := Tryd.zeroValue4
  t5 := Tryd.underlying5
  a5 := Tryd.isAgg5
  z5 := Tryd.sizeOf5
  v5 := Tryd.zeroValue5
  t9 := Tryd.underlying9
  a9 := Tryd.isAgg9
  z9 := Tryd.sizeOf9
  v9 := Tryd.zeroValue9
  t31 := Tryd.underlying26
  a31 := Tryd.isAgg26
  z31 := Tryd.sizeOf26
  v31 := Tryd.zeroValue26
  t46 := Tryd.underlying166
  a46 := Tryd.isAgg166
  z46 := Tryd.sizeOf166
  v46 := Tryd.zeroValue166
  t51 := Tryd.underlying200
  a51 := Tryd.isAgg200
  z51 := Tryd.sizeOf200
  v51 := Tryd.zeroValue200
  t53 := Tryd.underlying202
  a53 := Tryd.isAgg202
  z53 := Tryd.sizeOf202
  v53 := Tryd.zeroValue202
  t131 := Tryd.underlying98
  a131 := Tryd.isAgg98
  z131 := Tryd.sizeOf98
  v131 := Tryd.zeroValue98
  t182 := Tryd.underlying193
  a182 := Tryd.isAgg193
  z182 := Tryd.sizeOf193
  v182 := Tryd.zeroValue193
  t183 := Tryd.underlying194
  a183 := Tryd.isAgg194
  z183 := Tryd.sizeOf194
  v183 := Tryd.zeroValue194
  t218 := Tryd.underlying227
  a218 := Tryd.isAgg227
  z218 := Tryd.sizeOf227
  v218 := Tryd.zeroValue227
  t222 := Tryd.underlying231
  a222 := Tryd.isAgg231
  z222 := Tryd.sizeOf231
  v222 := Tryd.zeroValue231
  t228 := Tryd.underlying243
  a228 := Tryd.isAgg243
  z228 := Tryd.sizeOf243
  v228 := Tryd.zeroValue243
  t229 := Tryd.underlying134
  a229 := Tryd.isAgg134
  z229 := Tryd.sizeOf134
  v229 := Tryd.zeroValue134 }
def Tryd.laysCompact_ren : Go.Shelf.Ren := ⟨fun | 194 => 56 | n => n, fun | 31 => 26 | 9 => 9 | 3 => 3 | 4 => 4 | 0 => 0 | n => n, fun | n => n⟩
theorem Tryd.laysCompact : Go.Proofs.Lays.n194 Tryd.prog Tryd.laysCompact_ren := {
  mixed := by kernel_rfl
  f194 := Tryd.func56.trans (congrArg some (by kernel_rfl))
  t0 := Tryd.underlying0
  a0 := Tryd.isAgg0
  z0 := Tryd.sizeOf0
  v0 := Tryd.zeroValue0
  t3 := Tryd.underlying3
  a3 := Tryd.isAgg3
  z3 := Tryd.sizeOf3
  v3 := Tryd.zeroValue3
  t4 := Tryd.underlying4
  a4 := Tryd.isAgg4
  z4 := Tryd.sizeOf4
  v4 := Tryd.zeroValue4
  t9 := Tryd.underlying9
  a9 := Tryd.isAgg9
  z9 := Tryd.sizeOf9
  v9 := Tryd.zeroValue9
  t31 := Tryd.underlying26
  a31 := Tryd.isAgg26
  z31 := Tryd.sizeOf26
  v31 := Tryd.zeroValue26 }
end Go.Proofs
