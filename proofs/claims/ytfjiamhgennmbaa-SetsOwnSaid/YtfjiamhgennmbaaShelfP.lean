/- slices.Sort's contract laid at this program, in plain words (by the kit's own tool lay-plain.mjs). -/
import Derived.Test.YtfjiamhgennmbaaProg
import Derived.Ground.NamesProg
import Derived.Shelf.Sort.Plain
import Derived.Shelf.Slices.In.SortNone
namespace Go.Proofs.Ytfjiamhgennmbaa.Q
open Go.Shelf
def lays_Sort_ren : Go.Shelf.Ren := ⟨fun | 189 => 37 | 125 => 40 | 257 => 39 | 128 => 50 | 129 => 51 | 294 => 41 | 295 => 42 | 296 => 43 | 297 => 44 | 298 => 45 | 299 => 46 | 216 => 47 | 300 => 48 | 301 => 49 | 328 => 52 | 329 => 53 | 330 => 54 | 331 => 55 | 332 => 56 | 215 => 57 | 343 => 58 | n => n, fun | 28 => 22 | 3 => 3 | 46 => 40 | 0 => 0 | 51 => 58 | 53 => 43 | 4 => 4 | 183 => 51 | 182 => 50 | 131 => 55 | 5 => 5 | 9 => 9 | 218 => 60 | 222 => 64 | 228 => 67 | 229 => 68 | n => n, fun | n => n⟩
theorem lays_Sort : Go.Proofs.Lays.n189 Try.prog lays_Sort_ren := {
  mixed := by kernel_rfl
  f125 := Try.func40.trans (congrArg some (by kernel_rfl))
  f128 := Try.func50.trans (congrArg some (by kernel_rfl))
  f129 := Try.func51.trans (congrArg some (by kernel_rfl))
  f189 := Try.func37.trans (congrArg some (by kernel_rfl))
  f215 := Try.func57.trans (congrArg some (by kernel_rfl))
  f216 := Try.func47.trans (congrArg some (by kernel_rfl))
  f257 := Try.func39.trans (congrArg some (by kernel_rfl))
  f294 := Try.func41.trans (congrArg some (by kernel_rfl))
  f295 := Try.func42.trans (congrArg some (by kernel_rfl))
  f296 := Try.func43.trans (congrArg some (by kernel_rfl))
  f297 := Try.func44.trans (congrArg some (by kernel_rfl))
  f298 := Try.func45.trans (congrArg some (by kernel_rfl))
  f299 := Try.func46.trans (congrArg some (by kernel_rfl))
  f300 := Try.func48.trans (congrArg some (by kernel_rfl))
  f301 := Try.func49.trans (congrArg some (by kernel_rfl))
  f328 := Try.func52.trans (congrArg some (by kernel_rfl))
  f329 := Try.func53.trans (congrArg some (by kernel_rfl))
  f330 := Try.func54.trans (congrArg some (by kernel_rfl))
  f331 := Try.func55.trans (congrArg some (by kernel_rfl))
  f332 := Try.func56.trans (congrArg some (by kernel_rfl))
  f343 := Try.func58.trans (congrArg some (by kernel_rfl))
  t0 := Try.underlying0
  a0 := Try.isAgg0
  z0 := Try.sizeOf0
  v0 := Try.zeroValue0
  t3 := Try.underlying3
  a3 := Try.isAgg3
  z3 := Try.sizeOf3
  v3 := Try.zeroValue3
  t4 := Try.underlying4
  a4 := Try.isAgg4
  z4 := Try.sizeOf4
  v4 := Try.zeroValue4
  t5 := Try.underlying5
  a5 := Try.isAgg5
  z5 := Try.sizeOf5
  v5 := Try.zeroValue5
  t9 := Try.underlying9
  a9 := Try.isAgg9
  z9 := Try.sizeOf9
  v9 := Try.zeroValue9
  t28 := Try.underlying22
  a28 := Try.isAgg22
  z28 := Try.sizeOf22
  v28 := Try.zeroValue22
  t46 := Try.underlying40
  a46 := Try.isAgg40
  z46 := Try.sizeOf40
  v46 := Try.zeroValue40
  t51 := Try.underlying58
  a51 := Try.isAgg58
  z51 := Try.sizeOf58
  v51 := Try.zeroValue58
  t53 := Try.underlying43
  a53 := Try.isAgg43
  z53 := Try.sizeOf43
  v53 := Try.zeroValue43
  t131 := Try.underlying55
  a131 := Try.isAgg55
  z131 := Try.sizeOf55
  v131 := Try.zeroValue55
  t182 := Try.underlying50
  a182 := Try.isAgg50
  z182 := Try.sizeOf50
  v182 := Try.zeroValue50
  t183 := Try.underlying51
  a183 := Try.isAgg51
  z183 := Try.sizeOf51
  v183 := Try.zeroValue51
  t218 := Try.underlying60
  a218 := Try.isAgg60
  z218 := Try.sizeOf60
  v218 := Try.zeroValue60
  t222 := Try.underlying64
  a222 := Try.isAgg64
  z222 := Try.sizeOf64
  v222 := Try.zeroValue64
  t228 := Try.underlying67
  a228 := Try.isAgg67
  z228 := Try.sizeOf67
  v228 := Try.zeroValue67
  t229 := Try.underlying68
  a229 := Try.isAgg68
  z229 := Try.sizeOf68
  v229 := Try.zeroValue68 }
end Go.Proofs.Ytfjiamhgennmbaa.Q
