/- The contracts of slices.Sort at numbers at this program: laid off the kit's shelf by its own command, in plain words. -/
import Derived.Test.YtokiekachlmigaaDoorProg
import Derived.WalkKit
import Derived.Ground.NamesProg
import Derived.Shelf.Sort.Plain
import Derived.Shelf.Slices.In.SortNone
set_option linter.all false
namespace Go.Proofs
open Go.Shelf
def Tryd.laysSortI_ren : Go.Shelf.Ren := ⟨fun | 189 => 87 | 125 => 109 | 257 => 131 | 128 => 152 | 129 => 153 | 294 => 161 | 295 => 162 | 296 => 163 | 297 => 164 | 298 => 165 | 299 => 166 | 216 => 167 | 300 => 168 | 301 => 169 | 328 => 189 | 329 => 182 | 330 => 183 | 331 => 190 | 332 => 191 | 215 => 192 | 343 => 210 | n => n, fun | 28 => 47 | 3 => 3 | 46 => 166 | 0 => 0 | 51 => 200 | 53 => 202 | 4 => 4 | 183 => 194 | 182 => 193 | 131 => 98 | 5 => 5 | 9 => 9 | 218 => 227 | 222 => 231 | 228 => 243 | 229 => 134 | n => n, fun | n => n⟩
theorem Tryd.laysSortI : Go.Proofs.Lays.n189 Tryd.prog Tryd.laysSortI_ren := {
  mixed := by kernel_rfl
  f125 := Tryd.func109.trans (congrArg some (by kernel_rfl))
  f128 := Tryd.func152.trans (congrArg some (by kernel_rfl))
  f129 := Tryd.func153.trans (congrArg some (by kernel_rfl))
  f189 := Tryd.func87.trans (congrArg some (by kernel_rfl))
  f215 := Tryd.func192.trans (congrArg some (by kernel_rfl))
  f216 := Tryd.func167.trans (congrArg some (by kernel_rfl))
  f257 := Tryd.func131.trans (congrArg some (by kernel_rfl))
  f294 := Tryd.func161.trans (congrArg some (by kernel_rfl))
  f295 := Tryd.func162.trans (congrArg some (by kernel_rfl))
  f296 := Tryd.func163.trans (congrArg some (by kernel_rfl))
  f297 := Tryd.func164.trans (congrArg some (by kernel_rfl))
  f298 := Tryd.func165.trans (congrArg some (by kernel_rfl))
  f299 := Tryd.func166.trans (congrArg some (by kernel_rfl))
  f300 := Tryd.func168.trans (congrArg some (by kernel_rfl))
  f301 := Tryd.func169.trans (congrArg some (by kernel_rfl))
  f328 := Tryd.func189.trans (congrArg some (by kernel_rfl))
  f329 := Tryd.func182.trans (congrArg some (by kernel_rfl))
  f330 := Tryd.func183.trans (congrArg some (by kernel_rfl))
  f331 := Tryd.func190.trans (congrArg some (by kernel_rfl))
  f332 := Tryd.func191.trans (congrArg some (by kernel_rfl))
  f343 := Tryd.func210.trans (congrArg some (by kernel_rfl))
  t0 := Tryd.underlying0
  a0 := Tryd.isAgg0
  z0 := Tryd.sizeOf0
  v0 := Tryd.zeroValue0
  t3 := Tryd.underlying3
  a3 := Tryd.isAgg3
  z3 := Tryd.sizeOf3
  v3 := Tryd.zeroValue3
  t4 := Tryd.underlying4
  a4 := Tryd.isAgg4
  z4 := Tryd.sizeOf4
  v4 := Tryd.zeroValue4
  t5 := Tryd.underlying5
  a5 := Tryd.isAgg5
  z5 := Tryd.sizeOf5
  v5 := Tryd.zeroValue5
  t9 := Tryd.underlying9
  a9 := Tryd.isAgg9
  z9 := Tryd.sizeOf9
  v9 := Tryd.zeroValue9
  t28 := Tryd.underlying47
  a28 := Tryd.isAgg47
  z28 := Tryd.sizeOf47
  v28 := Tryd.zeroValue47
  t46 := Tryd.underlying166
  a46 := Tryd.isAgg166
  z46 := Tryd.sizeOf166
  v46 := Tryd.zeroValue166
  t51 := Tryd.underlying200
  a51 := Tryd.isAgg200
  z51 := Tryd.sizeOf200
  v51 := Tryd.zeroValue200
  t53 := Tryd.underlying202
  a53 := Tryd.isAgg202
  z53 := Tryd.sizeOf202
  v53 := Tryd.zeroValue202
  t131 := Tryd.underlying98
  a131 := Tryd.isAgg98
  z131 := Tryd.sizeOf98
  v131 := Tryd.zeroValue98
  t182 := Tryd.underlying193
  a182 := Tryd.isAgg193
  z182 := Tryd.sizeOf193
  v182 := Tryd.zeroValue193
  t183 := Tryd.underlying194
  a183 := Tryd.isAgg194
  z183 := Tryd.sizeOf194
  v183 := Tryd.zeroValue194
  t218 := Tryd.underlying227
  a218 := Tryd.isAgg227
  z218 := Tryd.sizeOf227
  v218 := Tryd.zeroValue227
  t222 := Tryd.underlying231
  a222 := Tryd.isAgg231
  z222 := Tryd.sizeOf231
  v222 := Tryd.zeroValue231
  t228 := Tryd.underlying243
  a228 := Tryd.isAgg243
  z228 := Tryd.sizeOf243
  v228 := Tryd.zeroValue243
  t229 := Tryd.underlying134
  a229 := Tryd.isAgg134
  z229 := Tryd.sizeOf134
  v229 := Tryd.zeroValue134 }
end Go.Proofs
