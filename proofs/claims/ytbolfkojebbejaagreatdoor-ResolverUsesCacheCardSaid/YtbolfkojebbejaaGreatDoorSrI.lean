/- slices.Sort and slices.Compact of integers: the tables of numbers, written by the kit, lay-plain.mjs, and turned into a template by untpl.py. -/
import Derived.Shelf.Small.Bits
import Derived.Shelf.Sort.Plain
import Derived.Shelf.Slices.CompactI
import Derived.Ground.NamesProg
import Derived.Ground.Names2Prog
import Derived.Test.YtbolfkojebbejaaGreatDoorProg
set_option linter.unusedVariables false
set_option maxRecDepth 100000
set_option maxHeartbeats 32000000
namespace Go.Proofs.YtbolfkojebbejaaGreatDoor
open Go.Shelf
def sortInt_ren : Go.Shelf.Ren := ⟨fun | 189 => 150 | 125 => 188 | 257 => 187 | 128 => 222 | 129 => 223 | 294 => 213 | 295 => 214 | 296 => 215 | 297 => 216 | 298 => 217 | 299 => 218 | 216 => 219 | 300 => 220 | 301 => 221 | 328 => 244 | 329 => 245 | 330 => 246 | 331 => 247 | 332 => 248 | 215 => 242 | 343 => 256 | n => n, fun | 28 => 30 | 3 => 3 | 46 => 245 | 0 => 0 | 51 => 321 | 53 => 217 | 4 => 4 | 183 => 315 | 182 => 314 | 131 => 74 | 5 => 5 | 9 => 9 | 218 => 346 | 222 => 350 | 228 => 358 | 229 => 82 | n => n, fun | n => n⟩
theorem sortInt : Go.Proofs.Lays.n189 Tryz.prog sortInt_ren := {
 mixed := by kernel_rfl
 f125 := Tryz.func188.trans (congrArg some (by kernel_rfl))
 f128 := Tryz.func222.trans (congrArg some (by kernel_rfl))
 f129 := Tryz.func223.trans (congrArg some (by kernel_rfl))
 f189 := Tryz.func150.trans (congrArg some (by kernel_rfl))
 f215 := Tryz.func242.trans (congrArg some (by kernel_rfl))
 f216 := Tryz.func219.trans (congrArg some (by kernel_rfl))
 f257 := Tryz.func187.trans (congrArg some (by kernel_rfl))
 f294 := Tryz.func213.trans (congrArg some (by kernel_rfl))
 f295 := Tryz.func214.trans (congrArg some (by kernel_rfl))
 f296 := Tryz.func215.trans (congrArg some (by kernel_rfl))
 f297 := Tryz.func216.trans (congrArg some (by kernel_rfl))
 f298 := Tryz.func217.trans (congrArg some (by kernel_rfl))
 f299 := Tryz.func218.trans (congrArg some (by kernel_rfl))
 f300 := Tryz.func220.trans (congrArg some (by kernel_rfl))
 f301 := Tryz.func221.trans (congrArg some (by kernel_rfl))
 f328 := Tryz.func244.trans (congrArg some (by kernel_rfl))
 f329 := Tryz.func245.trans (congrArg some (by kernel_rfl))
 f330 := Tryz.func246.trans (congrArg some (by kernel_rfl))
 f331 := Tryz.func247.trans (congrArg some (by kernel_rfl))
 f332 := Tryz.func248.trans (congrArg some (by kernel_rfl))
 f343 := Tryz.func256.trans (congrArg some (by kernel_rfl))
 t0 := Tryz.underlying0
 a0 := Tryz.isAgg0
 z0 := Tryz.sizeOf0
 v0 := Tryz.zeroValue0
 t3 := Tryz.underlying3
 a3 := Tryz.isAgg3
 z3 := Tryz.sizeOf3
 v3 := Tryz.zeroValue3
 t4 := Tryz.underlying4
 a4 := Tryz.isAgg4
 z4 := Tryz.sizeOf4
 v4 := Tryz.zeroValue4
 t5 := Tryz.underlying5
 a5 := Tryz.isAgg5
 z5 := Tryz.sizeOf5
 v5 := Tryz.zeroValue5
 t9 := Tryz.underlying9
 a9 := Tryz.isAgg9
 z9 := Tryz.sizeOf9
 v9 := Tryz.zeroValue9
 t28 := Tryz.underlying30
 a28 := Tryz.isAgg30
 z28 := Tryz.sizeOf30
 v28 := Tryz.zeroValue30
 t46 := Tryz.underlying245
 a46 := Tryz.isAgg245
 z46 := Tryz.sizeOf245
 v46 := Tryz.zeroValue245
 t51 := Tryz.underlying321
 a51 := Tryz.isAgg321
 z51 := Tryz.sizeOf321
 v51 := Tryz.zeroValue321
 t53 := Tryz.underlying217
 a53 := Tryz.isAgg217
 z53 := Tryz.sizeOf217
 v53 := Tryz.zeroValue217
 t131 := Tryz.underlying74
 a131 := Tryz.isAgg74
 z131 := Tryz.sizeOf74
 v131 := Tryz.zeroValue74
 t182 := Tryz.underlying314
 a182 := Tryz.isAgg314
 z182 := Tryz.sizeOf314
 v182 := Tryz.zeroValue314
 t183 := Tryz.underlying315
 a183 := Tryz.isAgg315
 z183 := Tryz.sizeOf315
 v183 := Tryz.zeroValue315
 t218 := Tryz.underlying346
 a218 := Tryz.isAgg346
 z218 := Tryz.sizeOf346
 v218 := Tryz.zeroValue346
 t222 := Tryz.underlying350
 a222 := Tryz.isAgg350
 z222 := Tryz.sizeOf350
 v222 := Tryz.zeroValue350
 t228 := Tryz.underlying358
 a228 := Tryz.isAgg358
 z228 := Tryz.sizeOf358
 v228 := Tryz.zeroValue358
 t229 := Tryz.underlying82
 a229 := Tryz.isAgg82
 z229 := Tryz.sizeOf82
 v229 := Tryz.zeroValue82 }
def compInt_ren : Go.Shelf.Ren := ⟨fun | 20 => 151 | n => n, fun | 22 => 30 | 3 => 3 | 4 => 4 | 0 => 0 | n => n, fun | n => n⟩
theorem compInt : Go.Proofs.Lays2.n20 Tryz.prog compInt_ren := {
 mixed := by kernel_rfl
 f20 := Tryz.func151.trans (congrArg some (by kernel_rfl))
 t0 := Tryz.underlying0
 a0 := Tryz.isAgg0
 z0 := Tryz.sizeOf0
 v0 := Tryz.zeroValue0
 t3 := Tryz.underlying3
 a3 := Tryz.isAgg3
 z3 := Tryz.sizeOf3
 v3 := Tryz.zeroValue3
 t4 := Tryz.underlying4
 a4 := Tryz.isAgg4
 z4 := Tryz.sizeOf4
 v4 := Tryz.zeroValue4
 t22 := Tryz.underlying30
 a22 := Tryz.isAgg30
 z22 := Tryz.sizeOf30
 v22 := Tryz.zeroValue30
 i3 := by kernel_rfl }
end Go.Proofs.YtbolfkojebbejaaGreatDoor
