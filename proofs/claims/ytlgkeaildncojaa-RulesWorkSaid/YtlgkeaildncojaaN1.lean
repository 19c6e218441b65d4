/- slices.Sort's contract laid at this program, in plain words (by the kit's own tool lay-plain.mjs). -/
import Derived.Test.YtlgkeaildncojaaProg
import Derived.Ground.NamesProg
import Derived.Shelf.Sort.Plain
import Derived.Shelf.Slices.In.SortNone
namespace Go.Proofs.Ytlgkeaildncojaa.Q
open Go.Shelf
def lays_Sort_ren : Go.Shelf.Ren := ⟨fun | 189 => 59 | 125 => 70 | 257 => 69 | 128 => 82 | 129 => 83 | 294 => 73 | 295 => 74 | 296 => 75 | 297 => 76 | 298 => 77 | 299 => 78 | 216 => 79 | 300 => 80 | 301 => 81 | 328 => 84 | 329 => 85 | 330 => 86 | 331 => 87 | 332 => 88 | 215 => 89 | 343 => 90 | n => n, fun | 28 => 26 | 3 => 3 | 46 => 80 | 0 => 0 | 51 => 128 | 53 => 130 | 4 => 4 | 183 => 120 | 182 => 119 | 131 => 125 | 5 => 5 | 9 => 9 | 218 => 131 | 222 => 135 | 228 => 137 | 229 => 138 | n => n, fun | n => n⟩
theorem lays_Sort : Go.Proofs.Lays.n189 Try.prog lays_Sort_ren := {
  mixed := by kernel_rfl
  f125 := Try.func70.trans (congrArg some (by kernel_rfl))
  f128 := Try.func82.trans (congrArg some (by kernel_rfl))
  f129 := Try.func83.trans (congrArg some (by kernel_rfl))
  f189 := Try.func59.trans (congrArg some (by kernel_rfl))
  f215 := Try.func89.trans (congrArg some (by kernel_rfl))
  f216 := Try.func79.trans (congrArg some (by kernel_rfl))
  f257 := Try.func69.trans (congrArg some (by kernel_rfl))
  f294 := Try.func73.trans (congrArg some (by kernel_rfl))
  f295 := Try.func74.trans (congrArg some (by kernel_rfl))
  f296 := Try.func75.trans (congrArg some (by kernel_rfl))
  f297 := Try.func76.trans (congrArg some (by kernel_rfl))
  f298 := Try.func77.trans (congrArg some (by kernel_rfl))
  f299 := Try.func78.trans (congrArg some (by kernel_rfl))
  f300 := Try.func80.trans (congrArg some (by kernel_rfl))
  f301 := Try.func81.trans (congrArg some (by kernel_rfl))
  f328 := Try.func84.trans (congrArg some (by kernel_rfl))
  f329 := Try.func85.trans (congrArg some (by kernel_rfl))
  f330 := Try.func86.trans (congrArg some (by kernel_rfl))
  f331 := Try.func87.trans (congrArg some (by kernel_rfl))
  f332 := Try.func88.trans (congrArg some (by kernel_rfl))
  f343 := Try.func90.trans (congrArg some (by kernel_rfl))
  t0 := Try.underlying0
  a0 := Try.isAgg0
  z0 := Try.sizeOf0
  v0 := Try.zeroValue0
  t3 := Try.underlying3
  a3 := Try.isAgg3
  z3 := Try.sizeOf3
  v3 := Try.zeroValue3
  t4 := Try.underlying4
  a4 := Try.isAgg4
  z4 := Try.sizeOf4
  v4 := Try.zeroValue4
  t5 := Try.underlying5
  a5 := Try.isAgg5
  z5 := Try.sizeOf5
  v5 := Try.zeroValue5
  t9 := Try.underlying9
  a9 := Try.isAgg9
  z9 := Try.sizeOf9
  v9 := Try.zeroValue9
  t28 := Try.underlying26
  a28 := Try.isAgg26
  z28 := Try.sizeOf26
  v28 := Try.zeroValue26
  t46 := Try.underlying80
  a46 := Try.isAgg80
  z46 := Try.sizeOf80
  v46 := Try.zeroValue80
  t51 := Try.underlying128
  a51 := Try.isAgg128
  z51 := Try.sizeOf128
  v51 := Try.zeroValue128
  t53 := Try.underlying130
  a53 := Try.isAgg130
  z53 := Try.sizeOf130
  v53 := Try.zeroValue130
  t131 := Try.underlying125
  a131 := Try.isAgg125
  z131 := Try.sizeOf125
  v131 := Try.zeroValue125
  t182 := Try.underlying119
  a182 := Try.isAgg119
  z182 := Try.sizeOf119
  v182 := Try.zeroValue119
  t183 := Try.underlying120
  a183 := Try.isAgg120
  z183 := Try.sizeOf120
  v183 := Try.zeroValue120
  t218 := Try.underlying131
  a218 := Try.isAgg131
  z218 := Try.sizeOf131
  v218 := Try.zeroValue131
  t222 := Try.underlying135
  a222 := Try.isAgg135
  z222 := Try.sizeOf135
  v222 := Try.zeroValue135
  t228 := Try.underlying137
  a228 := Try.isAgg137
  z228 := Try.sizeOf137
  v228 := Try.zeroValue137
  t229 := Try.underlying138
  a229 := Try.isAgg138
  z229 := Try.sizeOf138
  v229 := Try.zeroValue138 }
end Go.Proofs.Ytlgkeaildncojaa.Q
