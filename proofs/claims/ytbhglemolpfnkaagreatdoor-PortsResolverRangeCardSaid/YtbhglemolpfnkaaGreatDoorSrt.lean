/- slices.SortFunc over records: the table of numbers and the facts of its closure, written by the kit, lay-plain.mjs, and turned into a template by u. -/
import Derived.Shelf.SlSortCmp.WholeK
import Derived.Ground.SlsfProg
import Derived.Test.YtbhglemolpfnkaaGreatDoorProg
set_option linter.unusedVariables false
set_option maxRecDepth 100000
set_option maxHeartbeats 32000000
namespace Go.Proofs.YtbhglemolpfnkaaGreatDoor
open Go.Shelf
def sortRec_ren : Go.Shelf.Ren := ⟨fun | 6 => 149 | 15 => 152 | 14 => 172 | 28 => 185 | 29 => 186 | 20 => 197 | 21 => 198 | 22 => 199 | 23 => 200 | 24 => 201 | 25 => 202 | 26 => 203 | 27 => 204 | 46 => 216 | 47 => 208 | 48 => 209 | 49 => 217 | 50 => 218 | 57 => 220 | n => n, fun | 22 => 66 | 24 => 131 | 25 => 237 | 3 => 3 | 39 => 240 | 0 => 0 | 53 => 278 | 55 => 203 | 4 => 4 | 46 => 272 | 45 => 271 | 50 => 44 | 5 => 5 | 9 => 9 | 66 => 303 | 70 => 307 | 76 => 315 | 77 => 70 | n => n, fun | n => n⟩
theorem sortRec : Go.Proofs.SlLaysF0.n6 Tryz.prog sortRec_ren := {
 mixed := by kernel_rfl
 f6 := ⟨Tryz.f149.name, by decide, Tryz.func149.trans (congrArg some (by kernel_rfl))⟩
 f14 := ⟨Tryz.f172.name, by decide, Tryz.func172.trans (congrArg some (by kernel_rfl))⟩
 f15 := Tryz.func152.trans (congrArg some (by kernel_rfl))
 f20 := ⟨Tryz.f197.name, by decide, Tryz.func197.trans (congrArg some (by kernel_rfl))⟩
 f21 := ⟨Tryz.f198.name, by decide, Tryz.func198.trans (congrArg some (by kernel_rfl))⟩
 f22 := ⟨Tryz.f199.name, by decide, Tryz.func199.trans (congrArg some (by kernel_rfl))⟩
 f23 := ⟨Tryz.f200.name, by decide, Tryz.func200.trans (congrArg some (by kernel_rfl))⟩
 f24 := ⟨Tryz.f201.name, by decide, Tryz.func201.trans (congrArg some (by kernel_rfl))⟩
 f25 := ⟨Tryz.f202.name, by decide, Tryz.func202.trans (congrArg some (by kernel_rfl))⟩
 f26 := ⟨Tryz.f203.name, by decide, Tryz.func203.trans (congrArg some (by kernel_rfl))⟩
 f27 := ⟨Tryz.f204.name, by decide, Tryz.func204.trans (congrArg some (by kernel_rfl))⟩
 f28 := Tryz.func185.trans (congrArg some (by kernel_rfl))
 f29 := Tryz.func186.trans (congrArg some (by kernel_rfl))
 f46 := ⟨Tryz.f216.name, by decide, Tryz.func216.trans (congrArg some (by kernel_rfl))⟩
 f47 := Tryz.func208.trans (congrArg some (by kernel_rfl))
 f48 := Tryz.func209.trans (congrArg some (by kernel_rfl))
 f49 := ⟨Tryz.f217.name, by decide, Tryz.func217.trans (congrArg some (by kernel_rfl))⟩
 f50 := ⟨Tryz.f218.name, by decide, Tryz.func218.trans (congrArg some (by kernel_rfl))⟩
 f57 := ⟨Tryz.f220.name, by decide, Tryz.func220.trans (congrArg some (by kernel_rfl))⟩
 t0 := Tryz.underlying0
 a0 := Tryz.isAgg0
 z0 := Tryz.sizeOf0
 v0 := Tryz.zeroValue0
 t3 := Tryz.underlying3
 a3 := Tryz.isAgg3
 z3 := Tryz.sizeOf3
 v3 := Tryz.zeroValue3
 t4 := Tryz.underlying4
 a4 := Tryz.isAgg4
 z4 := Tryz.sizeOf4
 v4 := Tryz.zeroValue4
 t5 := Tryz.underlying5
 a5 := Tryz.isAgg5
 z5 := Tryz.sizeOf5
 v5 := Tryz.zeroValue5
 t9 := Tryz.underlying9
 a9 := Tryz.isAgg9
 z9 := Tryz.sizeOf9
 v9 := Tryz.zeroValue9
 t22 := Tryz.underlying66
 a22 := Tryz.isAgg66
 z22 := Tryz.sizeOf66
 v22 := Tryz.zeroValue66
 t25 := Tryz.underlying237
 a25 := Tryz.isAgg237
 z25 := Tryz.sizeOf237
 v25 := Tryz.zeroValue237
 t39 := Tryz.underlying240
 a39 := Tryz.isAgg240
 z39 := Tryz.sizeOf240
 v39 := Tryz.zeroValue240
 t45 := Tryz.underlying271
 a45 := Tryz.isAgg271
 z45 := Tryz.sizeOf271
 v45 := Tryz.zeroValue271
 t46 := Tryz.underlying272
 a46 := Tryz.isAgg272
 z46 := Tryz.sizeOf272
 v46 := Tryz.zeroValue272
 t50 := Tryz.underlying44
 a50 := Tryz.isAgg44
 z50 := Tryz.sizeOf44
 v50 := Tryz.zeroValue44
 t53 := Tryz.underlying278
 a53 := Tryz.isAgg278
 z53 := Tryz.sizeOf278
 v53 := Tryz.zeroValue278
 t55 := Tryz.underlying203
 a55 := Tryz.isAgg203
 z55 := Tryz.sizeOf203
 v55 := Tryz.zeroValue203
 t66 := Tryz.underlying303
 a66 := Tryz.isAgg303
 z66 := Tryz.sizeOf303
 v66 := Tryz.zeroValue303
 t70 := Tryz.underlying307
 a70 := Tryz.isAgg307
 z70 := Tryz.sizeOf307
 v70 := Tryz.zeroValue307
 t76 := Tryz.underlying315
 a76 := Tryz.isAgg315
 z76 := Tryz.sizeOf315
 v76 := Tryz.zeroValue315
 t77 := Tryz.underlying70
 a77 := Tryz.isAgg70
 z77 := Tryz.sizeOf70
 v77 := Tryz.zeroValue70 }
end Go.Proofs.YtbhglemolpfnkaaGreatDoor
