/- A machine of symbolic values: PortsResetReachesOwner, walked. -/
import Derived.Test.YthdnonoheochhaaGreatDoorVp2
import Derived.Test.YthdnonoheochhaaGreatDoorVp3
import Derived.Test.YthdnonoheochhaaGreatDoorVp4
import Derived.Test.YthdnonoheochhaaGreatDoorVp5
import Derived.Test.YthdnonoheochhaaGreatDoorVp6
import Derived.Test.YthdnonoheochhaaGreatDoorVp7
import Derived.Test.YthdnonoheochhaaGreatDoorVp8
import Derived.Test.YthdnonoheochhaaGreatDoorVp9
namespace Go.Proofs.YthdnonoheochhaaGreatDoor
open Go Go.RowKit
set_option linter.unusedVariables false
set_option maxRecDepth 100000
theorem resetReachesOwner_w (sd i0 i1 mn wh : Int) (w : World) (hw : Glbs w) (m0 : 0 ≤ mn) (m1 : mn ≤ 255) (w0 : 0 ≤ wh) (w1 : wh ≤ 255) : Calls Tryz.prog 3 #[.int .i64 sd, .agg #[.int .i64 i0, .int .i64 i1], .int .u8 mn, .int .u8 wh] w fun e w' => e = .returned (.bool true) ∧ Below w.heap.size w w' := by
  have go : ∀ {c : List Bool} {D : Obs} {n m : Nat}, runG kofY tblR 400 3 [.int true .i64 sd, .agg [.int true .i64 i0, .int true .i64 i1], .int true .u8 mn, .int true .u8 wh] c = some (selL D n m, [.bool false true], 0) → okObs D → Calls Tryz.prog 3 #[.int .i64 sd, .agg #[.int .i64 i0, .int .i64 i1], .int .u8 mn, .int .u8 wh] w fun e w' => e = .returned (.bool true) ∧ Below w.heap.size w w' := fun hr hD =>
    vm_row (args := [.int true .i64 sd, .agg [.int true .i64 i0, .int true .i64 i1], .int true .u8 mn, .int true .u8 wh]) (U := .bool false true) entrY tblR_ok rfl rfl hr (selL_ok hD _ _) w hw
  have hm8 : Int.tmod mn ((8 : Nat) : Int) = mn % 8 := Int.tmod_eq_emod_of_nonneg m0
  have hwn : ∀ n : Nat, Int.tmod wh (n : Int) = wh % (n : Int) := fun n => Int.tmod_eq_emod_of_nonneg w0
  have hc : mn % 8 = 0 ∨ mn % 8 = 1 ∨ mn % 8 = 2 ∨ mn % 8 = 3 ∨ mn % 8 = 4 ∨ mn % 8 = 5 ∨ mn % 8 = 6 ∨ mn % 8 = 7 := by omega
  rcases hc with h | h | h | h | h | h | h | h
  · have hk : wh % 2 = 0 ∨ wh % 2 = 1 := by omega
    rcases hk with k | k
    · exact go (ji2_0 sd i0 i1 mn wh) (jo2_0 m0 m1 w0 w1 (hm8.trans h) ((hwn 2).trans k))
    · exact go (ji2_1 sd i0 i1 mn wh) (jo2_1 m0 m1 w0 w1 (hm8.trans h) ((hwn 2).trans k))
  · have hk : wh % 3 = 0 ∨ wh % 3 = 1 ∨ wh % 3 = 2 := by omega
    rcases hk with k | k | k
    · exact go (ji3_0 sd i0 i1 mn wh) (jo3_0 m0 m1 w0 w1 (hm8.trans h) ((hwn 3).trans k))
    · exact go (ji3_1 sd i0 i1 mn wh) (jo3_1 m0 m1 w0 w1 (hm8.trans h) ((hwn 3).trans k))
    · exact go (ji3_2 sd i0 i1 mn wh) (jo3_2 m0 m1 w0 w1 (hm8.trans h) ((hwn 3).trans k))
  · have hk : wh % 4 = 0 ∨ wh % 4 = 1 ∨ wh % 4 = 2 ∨ wh % 4 = 3 := by omega
    rcases hk with k | k | k | k
    · exact go (ji4_0 sd i0 i1 mn wh) (jo4_0 m0 m1 w0 w1 (hm8.trans h) ((hwn 4).trans k))
    · exact go (ji4_1 sd i0 i1 mn wh) (jo4_1 m0 m1 w0 w1 (hm8.trans h) ((hwn 4).trans k))
    · exact go (ji4_2 sd i0 i1 mn wh) (jo4_2 m0 m1 w0 w1 (hm8.trans h) ((hwn 4).trans k))
    · exact go (ji4_3 sd i0 i1 mn wh) (jo4_3 m0 m1 w0 w1 (hm8.trans h) ((hwn 4).trans k))
  · have hk : wh % 5 = 0 ∨ wh % 5 = 1 ∨ wh % 5 = 2 ∨ wh % 5 = 3 ∨ wh % 5 = 4 := by omega
    rcases hk with k | k | k | k | k
    · exact go (ji5_0 sd i0 i1 mn wh) (jo5_0 m0 m1 w0 w1 (hm8.trans h) ((hwn 5).trans k))
    · exact go (ji5_1 sd i0 i1 mn wh) (jo5_1 m0 m1 w0 w1 (hm8.trans h) ((hwn 5).trans k))
    · exact go (ji5_2 sd i0 i1 mn wh) (jo5_2 m0 m1 w0 w1 (hm8.trans h) ((hwn 5).trans k))
    · exact go (ji5_3 sd i0 i1 mn wh) (jo5_3 m0 m1 w0 w1 (hm8.trans h) ((hwn 5).trans k))
    · exact go (ji5_4 sd i0 i1 mn wh) (jo5_4 m0 m1 w0 w1 (hm8.trans h) ((hwn 5).trans k))
  · have hk : wh % 6 = 0 ∨ wh % 6 = 1 ∨ wh % 6 = 2 ∨ wh % 6 = 3 ∨ wh % 6 = 4 ∨ wh % 6 = 5 := by omega
    rcases hk with k | k | k | k | k | k
    · exact go (ji6_0 sd i0 i1 mn wh) (jo6_0 m0 m1 w0 w1 (hm8.trans h) ((hwn 6).trans k))
    · exact go (ji6_1 sd i0 i1 mn wh) (jo6_1 m0 m1 w0 w1 (hm8.trans h) ((hwn 6).trans k))
    · exact go (ji6_2 sd i0 i1 mn wh) (jo6_2 m0 m1 w0 w1 (hm8.trans h) ((hwn 6).trans k))
    · exact go (ji6_3 sd i0 i1 mn wh) (jo6_3 m0 m1 w0 w1 (hm8.trans h) ((hwn 6).trans k))
    · exact go (ji6_4 sd i0 i1 mn wh) (jo6_4 m0 m1 w0 w1 (hm8.trans h) ((hwn 6).trans k))
    · exact go (ji6_5 sd i0 i1 mn wh) (jo6_5 m0 m1 w0 w1 (hm8.trans h) ((hwn 6).trans k))
  · have hk : wh % 7 = 0 ∨ wh % 7 = 1 ∨ wh % 7 = 2 ∨ wh % 7 = 3 ∨ wh % 7 = 4 ∨ wh % 7 = 5 ∨ wh % 7 = 6 := by omega
    rcases hk with k | k | k | k | k | k | k
    · exact go (ji7_0 sd i0 i1 mn wh) (jo7_0 m0 m1 w0 w1 (hm8.trans h) ((hwn 7).trans k))
    · exact go (ji7_1 sd i0 i1 mn wh) (jo7_1 m0 m1 w0 w1 (hm8.trans h) ((hwn 7).trans k))
    · exact go (ji7_2 sd i0 i1 mn wh) (jo7_2 m0 m1 w0 w1 (hm8.trans h) ((hwn 7).trans k))
    · exact go (ji7_3 sd i0 i1 mn wh) (jo7_3 m0 m1 w0 w1 (hm8.trans h) ((hwn 7).trans k))
    · exact go (ji7_4 sd i0 i1 mn wh) (jo7_4 m0 m1 w0 w1 (hm8.trans h) ((hwn 7).trans k))
    · exact go (ji7_5 sd i0 i1 mn wh) (jo7_5 m0 m1 w0 w1 (hm8.trans h) ((hwn 7).trans k))
    · exact go (ji7_6 sd i0 i1 mn wh) (jo7_6 m0 m1 w0 w1 (hm8.trans h) ((hwn 7).trans k))
  · have hk : wh % 8 = 0 ∨ wh % 8 = 1 ∨ wh % 8 = 2 ∨ wh % 8 = 3 ∨ wh % 8 = 4 ∨ wh % 8 = 5 ∨ wh % 8 = 6 ∨ wh % 8 = 7 := by omega
    rcases hk with k | k | k | k | k | k | k | k
    · exact go (ji8_0 sd i0 i1 mn wh) (jo8_0 m0 m1 w0 w1 (hm8.trans h) ((hwn 8).trans k))
    · exact go (ji8_1 sd i0 i1 mn wh) (jo8_1 m0 m1 w0 w1 (hm8.trans h) ((hwn 8).trans k))
    · exact go (ji8_2 sd i0 i1 mn wh) (jo8_2 m0 m1 w0 w1 (hm8.trans h) ((hwn 8).trans k))
    · exact go (ji8_3 sd i0 i1 mn wh) (jo8_3 m0 m1 w0 w1 (hm8.trans h) ((hwn 8).trans k))
    · exact go (ji8_4 sd i0 i1 mn wh) (jo8_4 m0 m1 w0 w1 (hm8.trans h) ((hwn 8).trans k))
    · exact go (ji8_5 sd i0 i1 mn wh) (jo8_5 m0 m1 w0 w1 (hm8.trans h) ((hwn 8).trans k))
    · exact go (ji8_6 sd i0 i1 mn wh) (jo8_6 m0 m1 w0 w1 (hm8.trans h) ((hwn 8).trans k))
    · exact go (ji8_7 sd i0 i1 mn wh) (jo8_7 m0 m1 w0 w1 (hm8.trans h) ((hwn 8).trans k))
  · have hk : wh % 9 = 0 ∨ wh % 9 = 1 ∨ wh % 9 = 2 ∨ wh % 9 = 3 ∨ wh % 9 = 4 ∨ wh % 9 = 5 ∨ wh % 9 = 6 ∨ wh % 9 = 7 ∨ wh % 9 = 8 := by omega
    rcases hk with k | k | k | k | k | k | k | k | k
    · exact go (ji9_0 sd i0 i1 mn wh) (jo9_0 m0 m1 w0 w1 (hm8.trans h) ((hwn 9).trans k))
    · exact go (ji9_1 sd i0 i1 mn wh) (jo9_1 m0 m1 w0 w1 (hm8.trans h) ((hwn 9).trans k))
    · exact go (ji9_2 sd i0 i1 mn wh) (jo9_2 m0 m1 w0 w1 (hm8.trans h) ((hwn 9).trans k))
    · exact go (ji9_3 sd i0 i1 mn wh) (jo9_3 m0 m1 w0 w1 (hm8.trans h) ((hwn 9).trans k))
    · exact go (ji9_4 sd i0 i1 mn wh) (jo9_4 m0 m1 w0 w1 (hm8.trans h) ((hwn 9).trans k))
    · exact go (ji9_5 sd i0 i1 mn wh) (jo9_5 m0 m1 w0 w1 (hm8.trans h) ((hwn 9).trans k))
    · exact go (ji9_6 sd i0 i1 mn wh) (jo9_6 m0 m1 w0 w1 (hm8.trans h) ((hwn 9).trans k))
    · exact go (ji9_7 sd i0 i1 mn wh) (jo9_7 m0 m1 w0 w1 (hm8.trans h) ((hwn 9).trans k))
    · exact go (ji9_8 sd i0 i1 mn wh) (jo9_8 m0 m1 w0 w1 (hm8.trans h) ((hwn 9).trans k))
end Go.Proofs.YthdnonoheochhaaGreatDoor
