/- The contracts of slices.Sort and slices.Compact at strings at this program: laid off the kit's shelf by its own command, in plain words. -/
import Derived.Test.YtpbbmddbmbmbpaaProg
import Derived.WalkKit
import Derived.Ground.NamesProg
import Derived.Shelf.Sort.Plain
import Derived.Shelf.Slices.In.CompactS
import Derived.Shelf.Slices.In.SortNone
namespace Go.Proofs
open Go.Shelf
def Try.laysSort_ren : Go.Shelf.Ren := ⟨fun | 190 => 52 | 125 => 97 | 258 => 96 | 128 => 131 | 129 => 132 | 302 => 123 | 303 => 124 | 304 => 125 | 305 => 126 | 306 => 127 | 307 => 128 | 308 => 101 | 309 => 129 | 310 => 130 | 333 => 137 | 329 => 138 | 330 => 139 | 334 => 140 | 335 => 141 | 336 => 134 | 344 => 143 | n => n, fun | 31 => 64 | 9 => 9 | 3 => 3 | 46 => 160 | 0 => 0 | 51 => 192 | 53 => 194 | 4 => 4 | 183 => 186 | 182 => 185 | 131 => 137 | 5 => 5 | 218 => 198 | 222 => 202 | 228 => 204 | 229 => 174 | n => n, fun | n => n⟩
theorem Try.laysSort : Go.Proofs.Lays.n190 Try.prog Try.laysSort_ren := {
  mixed := by kernel_rfl
  f125 := Try.func97.trans (congrArg some (by kernel_rfl))
  f128 := Try.func131.trans (congrArg some (by kernel_rfl))
  f129 := Try.func132.trans (congrArg some (by kernel_rfl))
  f190 := Try.func52.trans (congrArg some (by kernel_rfl))
  f258 := Try.func96.trans (congrArg some (by kernel_rfl))
  f302 := Try.func123.trans (congrArg some (by kernel_rfl))
  f303 := Try.func124.trans (congrArg some (by kernel_rfl))
  f304 := Try.func125.trans (congrArg some (by kernel_rfl))
  f305 := Try.func126.trans (congrArg some (by kernel_rfl))
  f306 := Try.func127.trans (congrArg some (by kernel_rfl))
  f307 := Try.func128.trans (congrArg some (by kernel_rfl))
  f308 := Try.func101.trans (congrArg some (by kernel_rfl))
  f309 := Try.func129.trans (congrArg some (by kernel_rfl))
  f310 := Try.func130.trans (congrArg some (by kernel_rfl))
  f329 := Try.func138.trans (congrArg some (by kernel_rfl))
  f330 := Try.func139.trans (congrArg some (by kernel_rfl))
  f333 := Try.func137.trans (congrArg some (by kernel_rfl))
  f334 := Try.func140.trans (congrArg some (by kernel_rfl))
  f335 := Try.func141.trans (congrArg some (by kernel_rfl))
  f336 := Try.func134.trans (congrArg some (by kernel_rfl))
  f344 := Try.func143.trans (congrArg some (by kernel_rfl))
  t0 := Try.underlying0
  a0 := Try.isAgg0
  z0 := Try.sizeOf0
  v0 := Try.zeroValue0
  t3 := Try.underlying3
  a3 := Try.isAgg3
  z3 := Try.sizeOf3
  v3 := Try.zeroValue3
  t4 := Try.underlying4
  a4 := Try.isAgg4
  z4 := Try.sizeOf4
  v4 := Try.zeroValue4
  t5 := Try.underlying5
  a5 := Try.isAgg5
  z5 := Try.sizeOf5
  v5 := Try.zeroValue5
  t9 := Try.underlying9
  a9 := Try.isAgg9
  z9 := Try.sizeOf9
  v9 := Try.zeroValue9
  t31 := Try.underlying64
  a31 := Try.isAgg64
  z31 := Try.sizeOf64
  v31 := Try.zeroValue64
  t46 := Try.underlying160
  a46 := Try.isAgg160
  z46 := Try.sizeOf160
  v46 := Try.zeroValue160
  t51 := Try.underlying192
  a51 := Try.isAgg192
  z51 := Try.sizeOf192
  v51 := Try.zeroValue192
  t53 := Try.underlying194
  a53 := Try.isAgg194
  z53 := Try.sizeOf194
  v53 := Try.zeroValue194
  t131 := Try.underlying137
  a131 := Try.isAgg137
  z131 := Try.sizeOf137
  v131 := Try.zeroValue137
  t182 := Try.underlying185
  a182 := Try.isAgg185
  z182 := Try.sizeOf185
  v182 := Try.zeroValue185
  t183 := Try.underlying186
  a183 := Try.isAgg186
  z183 := Try.sizeOf186
  v183 := Try.zeroValue186
  t218 := Try.underlying198
  a218 := Try.isAgg198
  z218 := Try.sizeOf198
  v218 := Try.zeroValue198
  t222 := Try.underlying202
  a222 := Try.isAgg202
  z222 := Try.sizeOf202
  v222 := Try.zeroValue202
  t228 := Try.underlying204
  a228 := Try.isAgg204
  z228 := Try.sizeOf204
  v228 := Try.zeroValue204
  t229 := Try.underlying174
  a229 := Try.isAgg174
  z229 := Try.sizeOf174
  v229 := Try.zeroValue174 }
def Try.laysCompact_ren : Go.Shelf.Ren := ⟨fun | 194 => 53 | n => n, fun | 31 => 64 | 9 => 9 | 3 => 3 | 4 => 4 | 0 => 0 | n => n, fun | n => n⟩
theorem Try.laysCompact : Go.Proofs.Lays.n194 Try.prog Try.laysCompact_ren := {
  mixed := by kernel_rfl
  f194 := Try.func53.trans (congrArg some (by kernel_rfl))
  t0 := Try.underlying0
  a0 := Try.isAgg0
  z0 := Try.sizeOf0
  v0 := Try.zeroValue0
  t3 := Try.underlying3
  a3 := Try.isAgg3
  z3 := Try.sizeOf3
  v3 := Try.zeroValue3
  t4 := Try.underlying4
  a4 := Try.isAgg4
  z4 := Try.sizeOf4
  v4 := Try.zeroValue4
  t9 := Try.underlying9
  a9 := Try.isAgg9
  z9 := Try.sizeOf9
  v9 := Try.zeroValue9
  t31 := Try.underlying64
  a31 := Try.isAgg64
  z31 := Try.sizeOf64
  v31 := Try.zeroValue64 }
end Go.Proofs
