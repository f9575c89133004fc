/- A machine of symbolic values: PortsResetReachesOwner: runs with 3 connections. -/
import Derived.Test.YthdnonoheochhaaGreatDoorVp0
namespace Go.Proofs.YthdnonoheochhaaGreatDoor
open Go Go.RowKit
set_option linter.unusedVariables false
set_option maxRecDepth 100000
noncomputable def jD3_0 (sd i0 mn wh : Int) : Obs := [jc41 i0, jc15 i0, jc19 i0, (false, false), (true, true), (true, true), (true, true), (true, true), (true, true), (true, true), (false, false), (false, false), (true, true), (true, true), (false, false), (true, true), jc0 sd, jc1 sd, jc2 sd, jc3 sd, jc33 sd, jc4 sd, jc5 sd, jc6 sd, jc7 sd, jc8 sd, jc34 wh, jc10 wh, jc35 sd, jc36 sd, jc37 sd, jc38 sd, jc39 sd, jc40 sd, jc42 sd, jc43 sd, jc44 sd, jc11 sd, jc12 sd, jc13 sd, jc14 sd, jc16 sd, jc17 sd, jc18 sd, jc20 sd, jc45 mn, jc46 mn, jc22 mn]
theorem ji3_0 (sd i0 i1 mn wh : Int) : runG kofY tblR 400 3 [.int true .i64 sd, .agg [.int true .i64 i0, .int true .i64 i1], .int true .u8 mn, .int true .u8 wh] (bitsL 106 20247737611274754470906001628190) = some (selL (jD3_0 sd i0 mn wh) 141 1300850919055018665030739645917054973264884215863609024495455613796625246320696005221033298577328106997483522479032512120699303438400797001947503117923162051023628650112782614783003751117290148396462693570452097670938612822921261308809989166286850028694527584538248518772173342492312932831264492786631645057234867869002301893970980469931415187897091519076066969578315365744983254532954690529751698560634230630470644737773571, [.bool false true], 0) := by kernel_rfl
theorem jo3_0 {sd i0 mn wh : Int} (m0 : 0 ≤ mn) (m1 : mn ≤ 255) (w0 : 0 ≤ wh) (w1 : wh ≤ 255) (hm : Int.tmod mn ((8 : Nat) : Int) = 1) (hw : Int.tmod wh ((3 : Nat) : Int) = 0) : okObs (jD3_0 sd i0 mn wh) := by
  obtain ⟨v0, v1, v2⟩ := And.intro (po_v sd (i := ((0 : Nat) : Int)) (by decide) (by decide)) <| And.intro (po_v sd (i := ((1 : Nat) : Int)) (by decide) (by decide)) <| po_v sd (i := ((2 : Nat) : Int)) (by decide) (by decide)
  have hc := c_rg sd
  generalize Int.tmod sd 64 + 64 = c at *
  unfold jD3_0
  refine okO_cons (by rw [wr_rg]; rfl) ?_
  refine okO_cons (by rw [wr_rg]; rfl) ?_
  refine okO_cons (by rw [wr_rg]; rfl) ?_
  iterate 13 refine okO_cons rfl ?_
  simp only [jc0, jc1, jc2, jc3, jc33, jc4, jc5, jc6, jc7, jc8, jc34, jc10, jc35, jc36, jc37, jc38, jc39, jc40, jc42, jc43, jc44, jc11, jc12, jc13, jc14, jc16, jc17, jc18, jc20, jc45, jc46, jc22, hm, hw, v0, v1, v2, okO_c, okO_n, jP, ilt_dec, ieq_dec, inR_dec, rgI_dec, keq_dec, Key.i.injEq, Key.p.injEq, Key.t.injEq, Int.ofNat_eq_natCast]
  clear v2 v1 v0
  repeat' apply And.intro
  all_goals first | omega | exact rfl | exact True.intro
noncomputable def jD3_1 (sd i0 mn wh : Int) : Obs := [jc41 i0, jc15 i0, jc19 i0, (false, false), (true, true), (true, true), (true, true), (false, false), (true, true), (true, true), (true, true), (false, false), (false, false), (true, true), (true, true), (true, true), jc23 sd, jc24 sd, jc14 sd, jc25 sd, jc16 sd, jc47 sd, jc26 sd, jc27 sd, jc28 sd, jc12 sd, jc29 sd, jc30 sd, jc48 wh, jc49 wh, jc10 wh, jc35 sd, jc36 sd, jc37 sd, jc38 sd, jc39 sd, jc40 sd, jc42 sd, jc43 sd, jc44 sd, jc11 sd, jc13 sd, jc17 sd, jc18 sd, jc2 sd, jc20 sd, jc45 mn, jc46 mn, jc22 mn]
theorem ji3_1 (sd i0 i1 mn wh : Int) : runG kofY tblR 400 3 [.int true .i64 sd, .agg [.int true .i64 i0, .int true .i64 i1], .int true .u8 mn, .int true .u8 wh] (bitsL 110 323582651646043497072954810833950) = some (selL (jD3_1 sd i0 mn wh) 145 1460723160432992534300657692036086716391822211717957260736470778320827306881575185645376882481590144709114197294932962641209738094647446638025935674871004849880292620532722950736209194117566566565102618055287730589710443319104421786767793828994202473993685929386321023974091627349353942853704592375778271249995679990548644956943230815370059900324188087664076001833337904218910616961294677686289356327190490548580643106117246039667773443, [.bool false true], 0) := by kernel_rfl
theorem jo3_1 {sd i0 mn wh : Int} (m0 : 0 ≤ mn) (m1 : mn ≤ 255) (w0 : 0 ≤ wh) (w1 : wh ≤ 255) (hm : Int.tmod mn ((8 : Nat) : Int) = 1) (hw : Int.tmod wh ((3 : Nat) : Int) = 1) : okObs (jD3_1 sd i0 mn wh) := by
  obtain ⟨v0, v1, v2⟩ := And.intro (po_v sd (i := ((0 : Nat) : Int)) (by decide) (by decide)) <| And.intro (po_v sd (i := ((1 : Nat) : Int)) (by decide) (by decide)) <| po_v sd (i := ((2 : Nat) : Int)) (by decide) (by decide)
  have hc := c_rg sd
  generalize Int.tmod sd 64 + 64 = c at *
  unfold jD3_1
  refine okO_cons (by rw [wr_rg]; rfl) ?_
  refine okO_cons (by rw [wr_rg]; rfl) ?_
  refine okO_cons (by rw [wr_rg]; rfl) ?_
  iterate 13 refine okO_cons rfl ?_
  simp only [jc23, jc24, jc14, jc25, jc16, jc47, jc26, jc27, jc28, jc12, jc29, jc30, jc48, jc49, jc10, jc35, jc36, jc37, jc38, jc39, jc40, jc42, jc43, jc44, jc11, jc13, jc17, jc18, jc2, jc20, jc45, jc46, jc22, hm, hw, v0, v1, v2, okO_c, okO_n, jP, ilt_dec, ieq_dec, inR_dec, rgI_dec, keq_dec, Key.i.injEq, Key.p.injEq, Key.t.injEq, Int.ofNat_eq_natCast]
  clear v2 v1 v0
  repeat' apply And.intro
  all_goals first | omega | exact rfl | exact True.intro
noncomputable def jD3_2 (sd i0 mn wh : Int) : Obs := [jc41 i0, jc15 i0, jc19 i0, (false, false), (true, true), (true, true), (true, true), (false, false), (false, false), (true, true), (true, true), (true, true), (true, true), (true, true), (false, false), (true, true), jc50 sd, jc51 sd, jc40 sd, jc52 sd, jc42 sd, jc43 sd, jc53 sd, jc54 sd, jc55 sd, jc56 sd, jc37 sd, jc38 sd, jc57 sd, jc58 sd, jc59 wh, jc60 wh, jc49 wh, jc10 wh, jc35 sd, jc36 sd, jc39 sd, jc44 sd, jc11 sd, jc12 sd, jc13 sd, jc14 sd, jc16 sd, jc17 sd, jc18 sd, jc2 sd, jc20 sd, jc45 mn, jc46 mn, jc22 mn]
theorem ji3_2 (sd i0 i1 mn wh : Int) : runG kofY tblR 400 3 [.int true .i64 sd, .agg [.int true .i64 i0, .int true .i64 i1], .int true .u8 mn, .int true .u8 wh] (bitsL 114 5174599229047707236064094182186014) = some (selL (jD3_2 sd i0 mn wh) 149 1639531936200472659933766443589204070568133364888160193587265218761372116363972756427606343619695896254724654070188135947907170735019028832282629543114368013317035183985143954693761453274783191628215909761936061332084478913451287505117077846602456754021428342183878112414768761262316508736326619361663800276578166237020241809884628500915030919525868963725740243255138141770721102947930578987979284381037932779981483423643773581520552766029223170051, [.bool false true], 0) := by kernel_rfl
theorem jo3_2 {sd i0 mn wh : Int} (m0 : 0 ≤ mn) (m1 : mn ≤ 255) (w0 : 0 ≤ wh) (w1 : wh ≤ 255) (hm : Int.tmod mn ((8 : Nat) : Int) = 1) (hw : Int.tmod wh ((3 : Nat) : Int) = 2) : okObs (jD3_2 sd i0 mn wh) := by
  obtain ⟨v0, v1, v2⟩ := And.intro (po_v sd (i := ((0 : Nat) : Int)) (by decide) (by decide)) <| And.intro (po_v sd (i := ((1 : Nat) : Int)) (by decide) (by decide)) <| po_v sd (i := ((2 : Nat) : Int)) (by decide) (by decide)
  have hc := c_rg sd
  generalize Int.tmod sd 64 + 64 = c at *
  unfold jD3_2
  refine okO_cons (by rw [wr_rg]; rfl) ?_
  refine okO_cons (by rw [wr_rg]; rfl) ?_
  refine okO_cons (by rw [wr_rg]; rfl) ?_
  iterate 13 refine okO_cons rfl ?_
  simp only [jc50, jc51, jc40, jc52, jc42, jc43, jc53, jc54, jc55, jc56, jc37, jc38, jc57, jc58, jc59, jc60, jc49, jc10, jc35, jc36, jc39, jc44, jc11, jc12, jc13, jc14, jc16, jc17, jc18, jc2, jc20, jc45, jc46, jc22, hm, hw, v0, v1, v2, okO_c, okO_n, jP, ilt_dec, ieq_dec, inR_dec, rgI_dec, keq_dec, Key.i.injEq, Key.p.injEq, Key.t.injEq, Int.ofNat_eq_natCast]
  clear v2 v1 v0
  repeat' apply And.intro
  all_goals first | omega | exact rfl | exact True.intro
end Go.Proofs.YthdnonoheochhaaGreatDoor
