/- strings.Trim's contract at this program: laid off the kit's shelf by its own command, in plain words. -/
import Derived.Test.YtokiekachlmigaaDoorProg
import Derived.WalkKit
import Derived.Ground.NamesProg
import Derived.Shelf.Strings.SlTrimAscii
set_option linter.all false
namespace Go.Proofs
open Go.Shelf
def Tryd.lays160_ren : Go.Shelf.Ren := ⟨fun | 160 => 79 | 232 => 122 | 231 => 121 | 227 => 123 | 234 => 125 | 233 => 124 | 236 => 127 | 235 => 126 | 228 => 157 | 271 => 160 | 151 => 159 | 197 => 158 | 120 => 188 | 152 => 187 | 260 => 186 | 137 => 206 | 119 => 209 | 224 => 200 | 225 => 199 | 217 => 198 | 266 => 215 | n => n, fun | 9 => 9 | 4 => 4 | 3 => 3 | 5 => 5 | 117 => 179 | 116 => 178 | 0 => 0 | 124 => 182 | 21 => 21 | 105 => 207 | 46 => 166 | 119 => 245 | 139 => 248 | 138 => 247 | n => n, fun | 3 => 1 | 4 => 2 | n => n⟩
theorem Tryd.lays160 : Go.Proofs.Lays.n160 Tryd.prog Tryd.lays160_ren := {
  mixed := by kernel_rfl
  f119 := Tryd.func209.trans (congrArg some (by kernel_rfl))
  f120 := Tryd.func188.trans (congrArg some (by kernel_rfl))
  f137 := Tryd.func206.trans (congrArg some (by kernel_rfl))
  f151 := Tryd.func159.trans (congrArg some (by kernel_rfl))
  f152 := Tryd.func187.trans (congrArg some (by kernel_rfl))
  f160 := Tryd.func79.trans (congrArg some (by kernel_rfl))
  f197 := Tryd.func158.trans (congrArg some (by kernel_rfl))
  f217 := Tryd.func198.trans (congrArg some (by kernel_rfl))
  f224 := Tryd.func200.trans (congrArg some (by kernel_rfl))
  f225 := Tryd.func199.trans (congrArg some (by kernel_rfl))
  f227 := Tryd.func123.trans (congrArg some (by kernel_rfl))
  f228 := Tryd.func157.trans (congrArg some (by kernel_rfl))
  f231 := Tryd.func121.trans (congrArg some (by kernel_rfl))
  f232 := Tryd.func122.trans (congrArg some (by kernel_rfl))
  f233 := Tryd.func124.trans (congrArg some (by kernel_rfl))
  f234 := Tryd.func125.trans (congrArg some (by kernel_rfl))
  f235 := Tryd.func126.trans (congrArg some (by kernel_rfl))
  f236 := Tryd.func127.trans (congrArg some (by kernel_rfl))
  f260 := Tryd.func186.trans (congrArg some (by kernel_rfl))
  f266 := Tryd.func215.trans (congrArg some (by kernel_rfl))
  f271 := Tryd.func160.trans (congrArg some (by kernel_rfl))
  t0 := Tryd.underlying0
  a0 := Tryd.isAgg0
  z0 := Tryd.sizeOf0
  v0 := Tryd.zeroValue0
  t3 := Tryd.underlying3
  a3 := Tryd.isAgg3
  z3 := Tryd.sizeOf3
  v3 := Tryd.zeroValue3
  t4 := Tryd.underlying4
  a4 := Tryd.isAgg4
  z4 := Tryd.sizeOf4
  v4 := Tryd.zeroValue4
  t5 := Tryd.underlying5
  a5 := Tryd.isAgg5
  z5 := Tryd.sizeOf5
  v5 := Tryd.zeroValue5
  t9 := Tryd.underlying9
  a9 := Tryd.isAgg9
  z9 := Tryd.sizeOf9
  v9 := Tryd.zeroValue9
  t21 := Tryd.underlying21
  a21 := Tryd.isAgg21
  z21 := Tryd.sizeOf21
  v21 := Tryd.zeroValue21
  t46 := Tryd.underlying166
  a46 := Tryd.isAgg166
  z46 := Tryd.sizeOf166
  v46 := Tryd.zeroValue166
  t105 := Tryd.underlying207
  a105 := Tryd.isAgg207
  z105 := Tryd.sizeOf207
  v105 := Tryd.zeroValue207
  t116 := Tryd.underlying178
  a116 := Tryd.isAgg178
  z116 := Tryd.sizeOf178
  t117 := Tryd.underlying179
  a117 := Tryd.isAgg179
  z117 := Tryd.sizeOf179
  v117 := Tryd.zeroValue179
  t119 := Tryd.underlying245
  a119 := Tryd.isAgg245
  z119 := Tryd.sizeOf245
  t124 := Tryd.underlying182
  a124 := Tryd.isAgg182
  z124 := Tryd.sizeOf182
  v124 := Tryd.zeroValue182
  t138 := Tryd.underlying247
  a138 := Tryd.isAgg247
  z138 := Tryd.sizeOf247
  v138 := Tryd.zeroValue247
  t139 := Tryd.underlying248
  a139 := Tryd.isAgg248
  z139 := Tryd.sizeOf248
  v139 := Tryd.zeroValue248
  g3 := by kernel_rfl
  g4 := by kernel_rfl }
end Go.Proofs
