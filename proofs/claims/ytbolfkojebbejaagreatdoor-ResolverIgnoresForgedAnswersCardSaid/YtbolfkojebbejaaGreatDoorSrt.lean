/- slices.SortFunc over records: the table of numbers and the facts of its closure, written by the kit, lay-plain.mjs, and turned into a template by u. -/
import Derived.Shelf.SlSortCmp.WholeK
import Derived.Ground.SlsfProg
import Derived.Test.YtbolfkojebbejaaGreatDoorProg
set_option linter.unusedVariables false
set_option maxRecDepth 100000
set_option maxHeartbeats 32000000
namespace Go.Proofs.YtbolfkojebbejaaGreatDoor
open Go.Shelf
def sortRec_ren : Go.Shelf.Ren := ⟨fun | 6 => 185 | 15 => 188 | 14 => 209 | 28 => 222 | 29 => 223 | 20 => 234 | 21 => 235 | 22 => 236 | 23 => 237 | 24 => 238 | 25 => 239 | 26 => 240 | 27 => 241 | 46 => 253 | 47 => 245 | 48 => 246 | 49 => 254 | 50 => 255 | 57 => 257 | n => n, fun | 22 => 50 | 24 => 49 | 25 => 281 | 3 => 3 | 39 => 245 | 0 => 0 | 53 => 321 | 55 => 217 | 4 => 4 | 46 => 315 | 45 => 314 | 50 => 74 | 5 => 5 | 9 => 9 | 66 => 346 | 70 => 350 | 76 => 358 | 77 => 82 | n => n, fun | n => n⟩
theorem sortRec : Go.Proofs.SlLaysF0.n6 Tryz.prog sortRec_ren := {
 mixed := by kernel_rfl
 f6 := ⟨Tryz.f185.name, by decide, Tryz.func185.trans (congrArg some (by kernel_rfl))⟩
 f14 := ⟨Tryz.f209.name, by decide, Tryz.func209.trans (congrArg some (by kernel_rfl))⟩
 f15 := Tryz.func188.trans (congrArg some (by kernel_rfl))
 f20 := ⟨Tryz.f234.name, by decide, Tryz.func234.trans (congrArg some (by kernel_rfl))⟩
 f21 := ⟨Tryz.f235.name, by decide, Tryz.func235.trans (congrArg some (by kernel_rfl))⟩
 f22 := ⟨Tryz.f236.name, by decide, Tryz.func236.trans (congrArg some (by kernel_rfl))⟩
 f23 := ⟨Tryz.f237.name, by decide, Tryz.func237.trans (congrArg some (by kernel_rfl))⟩
 f24 := ⟨Tryz.f238.name, by decide, Tryz.func238.trans (congrArg some (by kernel_rfl))⟩
 f25 := ⟨Tryz.f239.name, by decide, Tryz.func239.trans (congrArg some (by kernel_rfl))⟩
 f26 := ⟨Tryz.f240.name, by decide, Tryz.func240.trans (congrArg some (by kernel_rfl))⟩
 f27 := ⟨Tryz.f241.name, by decide, Tryz.func241.trans (congrArg some (by kernel_rfl))⟩
 f28 := Tryz.func222.trans (congrArg some (by kernel_rfl))
 f29 := Tryz.func223.trans (congrArg some (by kernel_rfl))
 f46 := ⟨Tryz.f253.name, by decide, Tryz.func253.trans (congrArg some (by kernel_rfl))⟩
 f47 := Tryz.func245.trans (congrArg some (by kernel_rfl))
 f48 := Tryz.func246.trans (congrArg some (by kernel_rfl))
 f49 := ⟨Tryz.f254.name, by decide, Tryz.func254.trans (congrArg some (by kernel_rfl))⟩
 f50 := ⟨Tryz.f255.name, by decide, Tryz.func255.trans (congrArg some (by kernel_rfl))⟩
 f57 := ⟨Tryz.f257.name, by decide, Tryz.func257.trans (congrArg some (by kernel_rfl))⟩
 t0 := Tryz.underlying0
 a0 := Tryz.isAgg0
 z0 := Tryz.sizeOf0
 v0 := Tryz.zeroValue0
 t3 := Tryz.underlying3
 a3 := Tryz.isAgg3
 z3 := Tryz.sizeOf3
 v3 := Tryz.zeroValue3
 t4 := Tryz.underlying4
 a4 := Tryz.isAgg4
 z4 := Tryz.sizeOf4
 v4 := Tryz.zeroValue4
 t5 := Tryz.underlying5
 a5 := Tryz.isAgg5
 z5 := Tryz.sizeOf5
 v5 := Tryz.zeroValue5
 t9 := Tryz.underlying9
 a9 := Tryz.isAgg9
 z9 := Tryz.sizeOf9
 v9 := Tryz.zeroValue9
 t22 := Tryz.underlying50
 a22 := Tryz.isAgg50
 z22 := Tryz.sizeOf50
 v22 := Tryz.zeroValue50
 t25 := Tryz.underlying281
 a25 := Tryz.isAgg281
 z25 := Tryz.sizeOf281
 v25 := Tryz.zeroValue281
 t39 := Tryz.underlying245
 a39 := Tryz.isAgg245
 z39 := Tryz.sizeOf245
 v39 := Tryz.zeroValue245
 t45 := Tryz.underlying314
 a45 := Tryz.isAgg314
 z45 := Tryz.sizeOf314
 v45 := Tryz.zeroValue314
 t46 := Tryz.underlying315
 a46 := Tryz.isAgg315
 z46 := Tryz.sizeOf315
 v46 := Tryz.zeroValue315
 t50 := Tryz.underlying74
 a50 := Tryz.isAgg74
 z50 := Tryz.sizeOf74
 v50 := Tryz.zeroValue74
 t53 := Tryz.underlying321
 a53 := Tryz.isAgg321
 z53 := Tryz.sizeOf321
 v53 := Tryz.zeroValue321
 t55 := Tryz.underlying217
 a55 := Tryz.isAgg217
 z55 := Tryz.sizeOf217
 v55 := Tryz.zeroValue217
 t66 := Tryz.underlying346
 a66 := Tryz.isAgg346
 z66 := Tryz.sizeOf346
 v66 := Tryz.zeroValue346
 t70 := Tryz.underlying350
 a70 := Tryz.isAgg350
 z70 := Tryz.sizeOf350
 v70 := Tryz.zeroValue350
 t76 := Tryz.underlying358
 a76 := Tryz.isAgg358
 z76 := Tryz.sizeOf358
 v76 := Tryz.zeroValue358
 t77 := Tryz.underlying82
 a77 := Tryz.isAgg82
 z77 := Tryz.sizeOf82
 v77 := Tryz.zeroValue82 }
end Go.Proofs.YtbolfkojebbejaaGreatDoor
