/- strings.Trim's contract at this program: laid off the kit's shelf by its own command, in plain words. -/
import Derived.Test.YtmlomnhjbmocfaaDoorProg
import Derived.WalkKit
import Derived.Ground.NamesProg
import Derived.Shelf.Strings.SlTrimAscii
set_option linter.all false
namespace Go.Proofs
open Go.Shelf
def Tryd.lays160_ren : Go.Shelf.Ren := ⟨fun | 160 => 52 | 232 => 90 | 231 => 89 | 227 => 91 | 234 => 93 | 233 => 92 | 236 => 95 | 235 => 94 | 228 => 113 | 271 => 116 | 151 => 115 | 197 => 114 | 120 => 130 | 152 => 129 | 260 => 128 | 137 => 144 | 119 => 156 | 224 => 138 | 225 => 137 | 217 => 136 | 266 => 161 | n => n, fun | 9 => 9 | 4 => 4 | 3 => 3 | 5 => 5 | 117 => 143 | 116 => 142 | 0 => 0 | 124 => 146 | 21 => 21 | 105 => 159 | 46 => 132 | 119 => 194 | 139 => 197 | 138 => 196 | n => n, fun | 3 => 1 | 4 => 2 | n => n⟩
theorem Tryd.lays160 : Go.Proofs.Lays.n160 Tryd.prog Tryd.lays160_ren := {
  mixed := by kernel_rfl
  f119 := Tryd.func156.trans (congrArg some (by kernel_rfl))
  f120 := Tryd.func130.trans (congrArg some (by kernel_rfl))
  f137 := Tryd.func144.trans (congrArg some (by kernel_rfl))
  f151 := Tryd.func115.trans (congrArg some (by kernel_rfl))
  f152 := Tryd.func129.trans (congrArg some (by kernel_rfl))
  f160 := Tryd.func52.trans (congrArg some (by kernel_rfl))
  f197 := Tryd.func114.trans (congrArg some (by kernel_rfl))
  f217 := Tryd.func136.trans (congrArg some (by kernel_rfl))
  f224 := Tryd.func138.trans (congrArg some (by kernel_rfl))
  f225 := Tryd.func137.trans (congrArg some (by kernel_rfl))
  f227 := Tryd.func91.trans (congrArg some (by kernel_rfl))
  f228 := Tryd.func113.trans (congrArg some (by kernel_rfl))
  f231 := Tryd.func89.trans (congrArg some (by kernel_rfl))
  f232 := Tryd.func90.trans (congrArg some (by kernel_rfl))
  f233 := Tryd.func92.trans (congrArg some (by kernel_rfl))
  f234 := Tryd.func93.trans (congrArg some (by kernel_rfl))
  f235 := Tryd.func94.trans (congrArg some (by kernel_rfl))
  f236 := Tryd.func95.trans (congrArg some (by kernel_rfl))
  f260 := Tryd.func128.trans (congrArg some (by kernel_rfl))
  f266 := Tryd.func161.trans (congrArg some (by kernel_rfl))
  f271 := Tryd.func116.trans (congrArg some (by kernel_rfl))
  t0 := Tryd.underlying0
  a0 := Tryd.isAgg0
  z0 := Tryd.sizeOf0
  v0 := Tryd.zeroValue0
  t3 := Tryd.underlying3
  a3 := Tryd.isAgg3
  z3 := Tryd.sizeOf3
  v3 := Tryd.zeroValue3
  t4 := Tryd.underlying4
  a4 := Tryd.isAgg4
  z4 := Tryd.sizeOf4
  v4 := Tryd.zeroValue4
  t5 := Tryd.underlying5
  a5 := Tryd.isAgg5
  z5 := Tryd.sizeOf5
  v5 := Tryd.zeroValue5
  t9 := Tryd.underlying9
  a9 := Tryd.isAgg9
  z9 := Tryd.sizeOf9
  v9 := Tryd.zeroValue9
  t21 := Tryd.underlying21
  a21 := Tryd.isAgg21
  z21 := Tryd.sizeOf21
  v21 := Tryd.zeroValue21
  t46 := Tryd.underlying132
  a46 := Tryd.isAgg132
  z46 := Tryd.sizeOf132
  v46 := Tryd.zeroValue132
  t105 := Tryd.underlying159
  a105 := Tryd.isAgg159
  z105 := Tryd.sizeOf159
  v105 := Tryd.zeroValue159
  t116 := Tryd.underlying142
  a116 := Tryd.isAgg142
  z116 := Tryd.sizeOf142
  t117 := Tryd.underlying143
  a117 := Tryd.isAgg143
  z117 := Tryd.sizeOf143
  v117 := Tryd.zeroValue143
  t119 := Tryd.underlying194
  a119 := Tryd.isAgg194
  z119 := Tryd.sizeOf194
  t124 := Tryd.underlying146
  a124 := Tryd.isAgg146
  z124 := Tryd.sizeOf146
  v124 := Tryd.zeroValue146
  t138 := Tryd.underlying196
  a138 := Tryd.isAgg196
  z138 := Tryd.sizeOf196
  v138 := Tryd.zeroValue196
  t139 := Tryd.underlying197
  a139 := Tryd.isAgg197
  z139 := Tryd.sizeOf197
  v139 := Tryd.zeroValue197
  g3 := by kernel_rfl
  g4 := by kernel_rfl }
end Go.Proofs
