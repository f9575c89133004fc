/- A machine of symbolic values: PortsResetReachesOwner: runs with 2 connections. -/
import Derived.Test.YthdnonoheochhaaGreatDoorVp0
namespace Go.Proofs.YthdnonoheochhaaGreatDoor
open Go Go.RowKit
set_option linter.unusedVariables false
set_option maxRecDepth 100000
noncomputable def jD2_0 (sd i0 mn wh : Int) : Obs := [jc15 i0, jc19 i0, (false, false), (true, true), (true, true), (true, true), (true, true), (true, true), (true, true), (false, false), (true, true), (true, true), (true, true), jc0 sd, jc1 sd, jc2 sd, jc3 sd, jc4 sd, jc5 sd, jc6 sd, jc7 sd, jc8 sd, jc9 wh, jc10 wh, jc11 sd, jc12 sd, jc13 sd, jc14 sd, jc16 sd, jc17 sd, jc18 sd, jc20 sd, jc21 mn, jc22 mn]
theorem ji2_0 (sd i0 i1 mn wh : Int) : runG kofY tblR 400 3 [.int true .i64 sd, .agg [.int true .i64 i0, .int true .i64 i1], .int true .u8 mn, .int true .u8 wh] (bitsL 65 9209852449425198607) = some (selL (jD2_0 sd i0 mn wh) 92 285735757524185177453029764420384361500795497609751123836926016563257913929838711203259459281077047329858739763312323299955827286913119510643568399612533993587036624275571986097408240959201448021105698616787914020874520953204057125144112018364755717729673573265994126030015490, [.bool false true], 0) := by kernel_rfl
theorem jo2_0 {sd i0 mn wh : Int} (m0 : 0 ≤ mn) (m1 : mn ≤ 255) (w0 : 0 ≤ wh) (w1 : wh ≤ 255) (hm : Int.tmod mn ((8 : Nat) : Int) = 0) (hw : Int.tmod wh ((2 : Nat) : Int) = 0) : okObs (jD2_0 sd i0 mn wh) := by
  obtain ⟨v0, v1⟩ := And.intro (po_v sd (i := ((0 : Nat) : Int)) (by decide) (by decide)) <| po_v sd (i := ((1 : Nat) : Int)) (by decide) (by decide)
  have hc := c_rg sd
  generalize Int.tmod sd 64 + 64 = c at *
  unfold jD2_0
  refine okO_cons (by rw [wr_rg]; rfl) ?_
  refine okO_cons (by rw [wr_rg]; rfl) ?_
  iterate 11 refine okO_cons rfl ?_
  simp only [jc0, jc1, jc2, jc3, jc4, jc5, jc6, jc7, jc8, jc9, jc10, jc11, jc12, jc13, jc14, jc16, jc17, jc18, jc20, jc21, jc22, hm, hw, v0, v1, okO_c, okO_n, jP, ilt_dec, ieq_dec, inR_dec, rgI_dec, keq_dec, Key.i.injEq, Key.p.injEq, Key.t.injEq, Int.ofNat_eq_natCast]
  clear v1 v0
  repeat' apply And.intro
  all_goals first | omega | exact rfl | exact True.intro
noncomputable def jD2_1 (sd i0 mn wh : Int) : Obs := [jc15 i0, jc19 i0, (false, false), (true, true), (true, true), (true, true), (false, false), (true, true), (true, true), (true, true), (true, true), (true, true), (true, true), jc23 sd, jc24 sd, jc14 sd, jc25 sd, jc16 sd, jc26 sd, jc27 sd, jc28 sd, jc12 sd, jc29 sd, jc30 sd, jc31 wh, jc32 wh, jc10 wh, jc11 sd, jc13 sd, jc17 sd, jc18 sd, jc2 sd, jc20 sd, jc21 mn, jc22 mn]
theorem ji2_1 (sd i0 i1 mn wh : Int) : runG kofY tblR 400 3 [.int true .i64 sd, .agg [.int true .i64 i0, .int true .i64 i1], .int true .u8 mn, .int true .u8 wh] (bitsL 69 147155100239690468879) = some (selL (jD2_1 sd i0 mn wh) 96 323686705159514031284691720332258368381937453545160036073216380844387411882961941225656633429494503612529953980220312397566036909514559982248093805458713993358858650527399639639395739139679530650836816830845267604358415899291469558577914390428997553131710317603508950029947429250413890562, [.bool false true], 0) := by kernel_rfl
theorem jo2_1 {sd i0 mn wh : Int} (m0 : 0 ≤ mn) (m1 : mn ≤ 255) (w0 : 0 ≤ wh) (w1 : wh ≤ 255) (hm : Int.tmod mn ((8 : Nat) : Int) = 0) (hw : Int.tmod wh ((2 : Nat) : Int) = 1) : okObs (jD2_1 sd i0 mn wh) := by
  obtain ⟨v0, v1⟩ := And.intro (po_v sd (i := ((0 : Nat) : Int)) (by decide) (by decide)) <| po_v sd (i := ((1 : Nat) : Int)) (by decide) (by decide)
  have hc := c_rg sd
  generalize Int.tmod sd 64 + 64 = c at *
  unfold jD2_1
  refine okO_cons (by rw [wr_rg]; rfl) ?_
  refine okO_cons (by rw [wr_rg]; rfl) ?_
  iterate 11 refine okO_cons rfl ?_
  simp only [jc23, jc24, jc14, jc25, jc16, jc26, jc27, jc28, jc12, jc29, jc30, jc31, jc32, jc10, jc11, jc13, jc17, jc18, jc2, jc20, jc21, jc22, hm, hw, v0, v1, okO_c, okO_n, jP, ilt_dec, ieq_dec, inR_dec, rgI_dec, keq_dec, Key.i.injEq, Key.p.injEq, Key.t.injEq, Int.ofNat_eq_natCast]
  clear v1 v0
  repeat' apply And.intro
  all_goals first | omega | exact rfl | exact True.intro
end Go.Proofs.YthdnonoheochhaaGreatDoor
