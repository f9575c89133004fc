/- slices.Sorted over maps.Keys of a map with int keys: the tables of numbers, written by the kit, lay-plain.mjs, and turned into a template by untpl.py; and the contract. -/
import Derived.Shelf.SlIterI.Nil
import Derived.Shelf.SortM.Plain
import Derived.Shelf.SortM.SortNone
import Derived.Ground.GgzProg
import Derived.Ground.SlgmProg
import Derived.Test.YtockaipodnapjaaGreatDoorProg
namespace Go.Proofs.YtockaipodnapjaaGreatDoor
open Go.Shelf
def keysA_ren : Go.Shelf.Ren := ⟨fun | 7 => 108 | 10 => 186 | n => n, fun | 23 => 85 | 26 => 3 | 3 => 69 | 28 => 130 | 0 => 0 | 27 => 129 | 33 => 79 | 4 => 4 | n => n, fun | n => n⟩
theorem keysA : Go.Proofs.SlLaysZI.n7 Tryz.prog keysA_ren := {
  mixed := by kernel_rfl
  f7 := ⟨Tryz.f108.name, by decide, Tryz.func108.trans (congrArg some (by kernel_rfl))⟩
  f10 := ⟨Tryz.f186.name, by decide, Tryz.func186.trans (congrArg some (by kernel_rfl))⟩
  t0 := Tryz.underlying0
  a0 := Tryz.isAgg0
  z0 := Tryz.sizeOf0
  v0 := Tryz.zeroValue0
  t4 := Tryz.underlying4
  a4 := Tryz.isAgg4
  z4 := Tryz.sizeOf4
  v4 := Tryz.zeroValue4
  t23 := Tryz.underlying85
  a23 := Tryz.isAgg85
  z23 := Tryz.sizeOf85
  v23 := Tryz.zeroValue85
  t26 := Tryz.underlying3
  a26 := Tryz.isAgg3
  z26 := Tryz.sizeOf3
  v26 := Tryz.zeroValue3
  t27 := Tryz.underlying129
  a27 := Tryz.isAgg129
  z27 := Tryz.sizeOf129
  v27 := Tryz.zeroValue129
  t28 := Tryz.underlying130
  a28 := Tryz.isAgg130
  z28 := Tryz.sizeOf130
  v28 := Tryz.zeroValue130
  t33 := Tryz.underlying79
  a33 := Tryz.isAgg79
  z33 := Tryz.sizeOf79
  v33 := Tryz.zeroValue79 }
def sortedA_ren : Go.Shelf.Ren := ⟨fun | 6 => 107 | 8 => 184 | 9 => 185 | 11 => 255 | 13 => 120 | 12 => 256 | 23 => 196 | 24 => 197 | 14 => 309 | 15 => 310 | 16 => 311 | 17 => 312 | 18 => 313 | 19 => 314 | 20 => 315 | 21 => 316 | 22 => 317 | 25 => 330 | 26 => 259 | 27 => 260 | 28 => 331 | 29 => 332 | 30 => 121 | 31 => 344 | n => n, fun | 26 => 3 | 28 => 130 | 24 => 28 | 0 => 0 | 3 => 3 | 37 => 195 | 48 => 77 | 50 => 276 | 4 => 4 | 40 => 269 | 39 => 268 | 45 => 198 | 5 => 5 | 9 => 9 | 51 => 325 | 55 => 329 | 57 => 373 | 58 => 64 | 33 => 79 | n => n, fun | n => n⟩
theorem sortedA : Go.Proofs.SlLaysZI.n6 Tryz.prog sortedA_ren := {
  mixed := by kernel_rfl
  f6 := ⟨Tryz.f107.name, by decide, Tryz.func107.trans (congrArg some (by kernel_rfl))⟩
  f8 := ⟨Tryz.f184.name, by decide, Tryz.func184.trans (congrArg some (by kernel_rfl))⟩
  f11 := ⟨Tryz.f255.name, by decide, Tryz.func255.trans (congrArg some (by kernel_rfl))⟩
  t0 := Tryz.underlying0
  a0 := Tryz.isAgg0
  z0 := Tryz.sizeOf0
  v0 := Tryz.zeroValue0
  t24 := Tryz.underlying28
  a24 := Tryz.isAgg28
  z24 := Tryz.sizeOf28
  v24 := Tryz.zeroValue28
  t26 := Tryz.underlying3
  a26 := Tryz.isAgg3
  z26 := Tryz.sizeOf3
  v26 := Tryz.zeroValue3
  t28 := Tryz.underlying130
  a28 := Tryz.isAgg130
  z28 := Tryz.sizeOf130
  v28 := Tryz.zeroValue130
  i26 := by kernel_rfl }
def sortA_ren : Go.Shelf.Ren := ⟨fun | 5 => 185 | 8 => 120 | 7 => 256 | 19 => 196 | 20 => 197 | 10 => 309 | 11 => 310 | 12 => 311 | 13 => 312 | 14 => 313 | 15 => 314 | 16 => 315 | 17 => 316 | 18 => 317 | 30 => 330 | 31 => 259 | 32 => 260 | 33 => 331 | 34 => 332 | 35 => 121 | 40 => 344 | n => n, fun | 23 => 28 | 25 => 3 | 3 => 3 | 32 => 195 | 22 => 28 | 0 => 0 | 44 => 77 | 46 => 276 | 4 => 4 | 36 => 269 | 35 => 268 | 41 => 198 | 5 => 5 | 9 => 9 | 53 => 325 | 57 => 329 | 63 => 373 | 64 => 64 | n => n, fun | n => n⟩
theorem sortA : Go.Proofs.SlLaysM.n5 Tryz.prog sortA_ren := {
  mixed := by kernel_rfl
  f5 := ⟨Tryz.f185.name, by decide, Tryz.func185.trans (congrArg some (by kernel_rfl))⟩
  f7 := ⟨Tryz.f256.name, by decide, Tryz.func256.trans (congrArg some (by kernel_rfl))⟩
  f8 := Tryz.func120.trans (congrArg some (by kernel_rfl))
  f10 := ⟨Tryz.f309.name, by decide, Tryz.func309.trans (congrArg some (by kernel_rfl))⟩
  f11 := ⟨Tryz.f310.name, by decide, Tryz.func310.trans (congrArg some (by kernel_rfl))⟩
  f12 := ⟨Tryz.f311.name, by decide, Tryz.func311.trans (congrArg some (by kernel_rfl))⟩
  f13 := ⟨Tryz.f312.name, by decide, Tryz.func312.trans (congrArg some (by kernel_rfl))⟩
  f14 := ⟨Tryz.f313.name, by decide, Tryz.func313.trans (congrArg some (by kernel_rfl))⟩
  f15 := ⟨Tryz.f314.name, by decide, Tryz.func314.trans (congrArg some (by kernel_rfl))⟩
  f16 := ⟨Tryz.f315.name, by decide, Tryz.func315.trans (congrArg some (by kernel_rfl))⟩
  f17 := ⟨Tryz.f316.name, by decide, Tryz.func316.trans (congrArg some (by kernel_rfl))⟩
  f18 := ⟨Tryz.f317.name, by decide, Tryz.func317.trans (congrArg some (by kernel_rfl))⟩
  f19 := Tryz.func196.trans (congrArg some (by kernel_rfl))
  f20 := Tryz.func197.trans (congrArg some (by kernel_rfl))
  f30 := ⟨Tryz.f330.name, by decide, Tryz.func330.trans (congrArg some (by kernel_rfl))⟩
  f31 := Tryz.func259.trans (congrArg some (by kernel_rfl))
  f32 := Tryz.func260.trans (congrArg some (by kernel_rfl))
  f33 := ⟨Tryz.f331.name, by decide, Tryz.func331.trans (congrArg some (by kernel_rfl))⟩
  f34 := ⟨Tryz.f332.name, by decide, Tryz.func332.trans (congrArg some (by kernel_rfl))⟩
  f35 := ⟨Tryz.f121.name, by decide, Tryz.func121.trans (congrArg some (by kernel_rfl))⟩
  f40 := ⟨Tryz.f344.name, by decide, Tryz.func344.trans (congrArg some (by kernel_rfl))⟩
  t0 := Tryz.underlying0
  a0 := Tryz.isAgg0
  z0 := Tryz.sizeOf0
  v0 := Tryz.zeroValue0
  t3 := Tryz.underlying3
  a3 := Tryz.isAgg3
  z3 := Tryz.sizeOf3
  v3 := Tryz.zeroValue3
  t4 := Tryz.underlying4
  a4 := Tryz.isAgg4
  z4 := Tryz.sizeOf4
  v4 := Tryz.zeroValue4
  t5 := Tryz.underlying5
  a5 := Tryz.isAgg5
  z5 := Tryz.sizeOf5
  v5 := Tryz.zeroValue5
  t9 := Tryz.underlying9
  a9 := Tryz.isAgg9
  z9 := Tryz.sizeOf9
  v9 := Tryz.zeroValue9
  t22 := Tryz.underlying28
  a22 := Tryz.isAgg28
  z22 := Tryz.sizeOf28
  v22 := Tryz.zeroValue28
  t23 := Tryz.underlying28
  a23 := Tryz.isAgg28
  z23 := Tryz.sizeOf28
  v23 := Tryz.zeroValue28
  t25 := Tryz.underlying3
  a25 := Tryz.isAgg3
  z25 := Tryz.sizeOf3
  v25 := Tryz.zeroValue3
  t32 := Tryz.underlying195
  a32 := Tryz.isAgg195
  z32 := Tryz.sizeOf195
  v32 := Tryz.zeroValue195
  t35 := Tryz.underlying268
  a35 := Tryz.isAgg268
  z35 := Tryz.sizeOf268
  v35 := Tryz.zeroValue268
  t36 := Tryz.underlying269
  a36 := Tryz.isAgg269
  z36 := Tryz.sizeOf269
  v36 := Tryz.zeroValue269
  t41 := Tryz.underlying198
  a41 := Tryz.isAgg198
  z41 := Tryz.sizeOf198
  v41 := Tryz.zeroValue198
  t44 := Tryz.underlying77
  a44 := Tryz.isAgg77
  z44 := Tryz.sizeOf77
  v44 := Tryz.zeroValue77
  t46 := Tryz.underlying276
  a46 := Tryz.isAgg276
  z46 := Tryz.sizeOf276
  v46 := Tryz.zeroValue276
  t53 := Tryz.underlying325
  a53 := Tryz.isAgg325
  z53 := Tryz.sizeOf325
  v53 := Tryz.zeroValue325
  t57 := Tryz.underlying329
  a57 := Tryz.isAgg329
  z57 := Tryz.sizeOf329
  v57 := Tryz.zeroValue329
  t63 := Tryz.underlying373
  a63 := Tryz.isAgg373
  z63 := Tryz.sizeOf373
  v63 := Tryz.zeroValue373
  t64 := Tryz.underlying64
  a64 := Tryz.isAgg64
  z64 := Tryz.sizeOf64
  v64 := Tryz.zeroValue64 }
section
open Go.RowKit Go.Maps Go.Sort
theorem kst_sorts (m : Nat) : AnyZI.SortsIn Tryz.prog sortedA_ren Fence.wide m :=
  ⟨fun blk off cap ss W hH hblk hsz => callsIn_wide.2 (AnyM.slices_Sort_int sortA blk off cap ss W hH hblk hsz),
   fun p cap W => callsIn_wide.2 (AnyM.slices_Sort_int_none sortA p cap W)⟩
theorem sorted_keys {H : Type} (bm b nn : Nat) (D0 : DataW H) (R : Value → Option (DataW H × List MemPlace)) (w : World) (hbm : bm < w.heap.size) (hm : w.cell? ⟨bm, 0, none⟩ = some (.map (some b))) (hown : w.ownsMap Tryz.prog 3 R b nn D0) (hmax : Maps.size D0 ≤ maxLen) (hbytes : Maps.size D0 * 8 ≤ 140737488355328) :
    Calls Tryz.prog 107 #[.func (.func 186) #[] #[.pointer (some ⟨bm, 0, none⟩)]] w fun e w' => ∃ (v : Value) (ss : List Int), e = .returned v ∧ ss.Perm (intKeys D0) ∧
      w'.ownsRow w.heap.size 3 1 v ss.length ((ss.mergeSort (fun x y => decide (x ≤ y))).map encZ) ∧ (v = .slice none 0 0 ↔ ss = []) ∧ Below w.heap.size w w' := by
  refine (callsIn_wide (n := 5)).1 ?_
  have hseq : SeqGives Fence.wide 2 Tryz.prog 186 #[.pointer (some ⟨bm, 0, none⟩)] encZ (fun ss => ss.Perm (intKeys D0)) (Maps.size D0) w :=
    AnyZI.keys_gives (ρ := keysA_ren) { keysA with } Fence.wide _ trivial rfl (by omega) bm b nn D0 w hbm hm hown
  exact AnyZI.sorted_in sortedA Fence.wide 5 trivial trivial trivial trivial rfl (by omega) (kst_sorts _) (enters_of Tryz.func185 (by kernel_rfl) rfl) 186 _ trivial (enters_of Tryz.func186 (by kernel_rfl) rfl) _ _ hmax hbytes _ hseq
end
end Go.Proofs.YtockaipodnapjaaGreatDoor
