/- The contracts of slices.Sort and slices.Compact at strings at this program: laid off the kit's shelf by its own command, in plain words. -/
import Derived.Test.YtmlomnhjbmocfaaDoorProg
import Derived.WalkKit
import Derived.Ground.NamesProg
import Derived.Shelf.Sort.Plain
import Derived.Shelf.Slices.In.CompactS
import Derived.Shelf.Slices.In.SortNone
set_option linter.all false
namespace Go.Proofs
open Go.Shelf
def Tryd.laysSort_ren : Go.Shelf.Ren := ⟨fun | 190 => 107 | 125 => 127 | 258 => 126 | 128 => 154 | 129 => 155 | 302 => 146 | 303 => 147 | 304 => 148 | 305 => 149 | 306 => 150 | 307 => 151 | 308 => 80 | 309 => 152 | 310 => 153 | 333 => 168 | 329 => 169 | 330 => 170 | 334 => 171 | 335 => 172 | 336 => 111 | 344 => 180 | n => n, fun | 31 => 27 | 9 => 9 | 3 => 3 | 46 => 132 | 0 => 0 | 51 => 193 | 53 => 178 | 4 => 4 | 183 => 187 | 182 => 186 | 131 => 64 | 5 => 5 | 218 => 206 | 222 => 210 | 228 => 218 | 229 => 219 | n => n, fun | n => n⟩
theorem Tryd.laysSort : Go.Proofs.Lays.n190 Tryd.prog Tryd.laysSort_ren := {
  mixed := by kernel_rfl
  f125 := Tryd.func127.trans (congrArg some (by kernel_rfl))
  f128 := Tryd.func154.trans (congrArg some (by kernel_rfl))
  f129 := Tryd.func155.trans (congrArg some (by kernel_rfl))
  f190 := Tryd.func107.trans (congrArg some (by kernel_rfl))
  f258 := Tryd.func126.trans (congrArg some (by kernel_rfl))
  f302 := Tryd.func146.trans (congrArg some (by kernel_rfl))
  f303 := Tryd.func147.trans (congrArg some (by kernel_rfl))
  f304 := Tryd.func148.trans (congrArg some (by kernel_rfl))
  f305 := Tryd.func149.trans (congrArg some (by kernel_rfl))
  f306 := Tryd.func150.trans (congrArg some (by kernel_rfl))
  f307 := Tryd.func151.trans (congrArg some (by kernel_rfl))
  f308 := Tryd.func80.trans (congrArg some (by kernel_rfl))
  f309 := Tryd.func152.trans (congrArg some (by kernel_rfl))
  f310 := Tryd.func153.trans (congrArg some (by kernel_rfl))
  f329 := Tryd.func169.trans (congrArg some (by kernel_rfl))
  f330 := Tryd.func170.trans (congrArg some (by kernel_rfl))
  f333 := Tryd.func168.trans (congrArg some (by kernel_rfl))
  f334 := Tryd.func171.trans (congrArg some (by kernel_rfl))
  f335 := Tryd.func172.trans (congrArg some (by kernel_rfl))
  f336 := Tryd.func111.trans (congrArg some (by kernel_rfl))
  f344 := Tryd.func180.trans (congrArg some (by kernel_rfl))
  t0 := Tryd.underlying0
  a0 := Tryd.isAgg0
  z0 := Tryd.sizeOf0
  v0 := Tryd.zeroValue0
  t3 := Tryd.underlying3
  a3 := Tryd.isAgg3
  z3 := Tryd.sizeOf3
  v3 := Tryd.zeroValue3
  t4 := Tryd.underlying4
  a4 := Tryd.isAgg4
  z4 := Tryd.sizeOf4
  v4 := Tryd.zeroValue4
  t5 := Tryd.underlying5
  a5 := Tryd.isAgg5
  z5 := Tryd.sizeOf5
  v5 := Tryd.zeroValue5
  t9 := Tryd.underlying9
  a9 := Tryd.isAgg9
  z9 := Tryd.sizeOf9
  v9 := Tryd.zeroValue9
  t31 := Tryd.underlying27
  a31 := Tryd.isAgg27
  z31 := Tryd.sizeOf27
  v31 := Tryd.zeroValue27
  t46 := Tryd.underlying132
  a46 := Tryd.isAgg132
  z46 := Tryd.sizeOf132
  v46 := Tryd.zeroValue132
  t51 := Tryd.underlying193
  a51 := Tryd.isAgg193
  z51 := Tryd.sizeOf193
  v51 := Tryd.zeroValue193
  t53 := Tryd.underlying178
  a53 := Tryd.isAgg178
  z53 := Tryd.sizeOf178
  v53 := Tryd.zeroValue178
  t131 := Tryd.underlying64
  a131 := Tryd.isAgg64
  z131 := Tryd.sizeOf64
  v131 := Tryd.zeroValue64
  t182 := Tryd.underlying186
  a182 := Tryd.isAgg186
  z182 := Tryd.sizeOf186
  v182 := Tryd.zeroValue186
  t183 := Tryd.underlying187
  a183 := Tryd.isAgg187
  z183 := Tryd.sizeOf187
  v183 := Tryd.zeroValue187
  t218 := Tryd.underlying206
  a218 := Tryd.isAgg206
  z218 := Tryd.sizeOf206
  v218 := Tryd.zeroValue206
  t222 := Tryd.underlying210
  a222 := Tryd.isAgg210
  z222 := Tryd.sizeOf210
  v222 := Tryd.zeroValue210
  t228 := Tryd.underlying218
  a228 := Tryd.isAgg218
  z228 := Tryd.sizeOf218
  v228 := Tryd.zeroValue218
  t229 := Tryd.underlying219
  a229 := Tryd.isAgg219
  z229 := Tryd.sizeOf219
  v229 := Tryd.zeroValue219 }
def Tryd.laysCompact_ren : Go.Shelf.Ren := ⟨fun | 194 => 108 | n => n, fun | 31 => 27 | 9 => 9 | 3 => 3 | 4 => 4 | 0 => 0 | n => n, fun | n => n⟩
theorem Tryd.laysCompact : Go.Proofs.Lays.n194 Tryd.prog Tryd.laysCompact_ren := {
  mixed := by kernel_rfl
  f194 := Tryd.func108.trans (congrArg some (by kernel_rfl))
  t0 := Tryd.underlying0
  a0 := Tryd.isAgg0
  z0 := Tryd.sizeOf0
  v0 := Tryd.zeroValue0
  t3 := Tryd.underlying3
  a3 := Tryd.isAgg3
  z3 := Tryd.sizeOf3
  v3 := Tryd.zeroValue3
  t4 := Tryd.underlying4
  a4 := Tryd.isAgg4
  z4 := Tryd.sizeOf4
  v4 := Tryd.zeroValue4
  t9 := Tryd.underlying9
  a9 := Tryd.isAgg9
  z9 := Tryd.sizeOf9
  v9 := Tryd.zeroValue9
  t31 := Tryd.underlying27
  a31 := Tryd.isAgg27
  z31 := Tryd.sizeOf27
  v31 := Tryd.zeroValue27 }
end Go.Proofs
