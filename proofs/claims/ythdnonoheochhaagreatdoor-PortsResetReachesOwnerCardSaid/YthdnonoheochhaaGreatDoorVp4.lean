/- A machine of symbolic values: PortsResetReachesOwner: runs with 4 connections. -/
import Derived.Test.YthdnonoheochhaaGreatDoorVp0
namespace Go.Proofs.YthdnonoheochhaaGreatDoor
open Go Go.RowKit
set_option linter.unusedVariables false
set_option maxRecDepth 100000
noncomputable def jD4_0 (sd i0 mn wh : Int) : Obs := [jc71 i0, jc41 i0, jc15 i0, jc19 i0, (false, false), (true, true), (true, true), (true, true), (true, true), (true, true), (true, true), (false, false), (false, false), (false, false), (true, true), (true, true), (false, false), (false, false), (false, false), (true, true), jc0 sd, jc1 sd, jc2 sd, jc3 sd, jc61 sd, jc33 sd, jc4 sd, jc5 sd, jc6 sd, jc7 sd, jc8 sd, jc62 wh, jc10 wh, jc63 sd, jc64 sd, jc65 sd, jc66 sd, jc67 sd, jc68 sd, jc69 sd, jc70 sd, jc72 sd, jc73 sd, jc74 sd, jc75 sd, jc35 sd, jc36 sd, jc37 sd, jc38 sd, jc39 sd, jc40 sd, jc42 sd, jc43 sd, jc44 sd, jc11 sd, jc12 sd, jc13 sd, jc14 sd, jc16 sd, jc17 sd, jc18 sd, jc20 sd, jc76 mn, jc77 mn, jc46 mn, jc22 mn]
theorem ji4_0 (sd i0 i1 mn wh : Int) : runG kofY tblR 400 3 [.int true .i64 sd, .agg [.int true .i64 i0, .int true .i64 i1], .int true .u8 mn, .int true .u8 wh] (bitsL 159 182353149932251061561933487601532294422983620668) = some (selL (jD4_0 sd i0 mn wh) 202 7644146538788075127610031931089723581959242649737376704659850846362902674847100049739987783413396657048016246929393414644806579296580346091181067300407571319804334307947237042444886501286906584012102220680542029643383141425347609018944685608658473732375400135693423619161271526388725591515258375940849605369306513489311176434254363216577198455521801783020291361831001062380879330103619933584059223071962713761669720684457350058135849279090290034263136537266168061285128070773051318688837844476834753084675578830605519073204679159419533098848495490363960983210625948818818368354591319058532141334202090001412, [.bool false true], 0) := by kernel_rfl
theorem jo4_0 {sd i0 mn wh : Int} (m0 : 0 ≤ mn) (m1 : mn ≤ 255) (w0 : 0 ≤ wh) (w1 : wh ≤ 255) (hm : Int.tmod mn ((8 : Nat) : Int) = 2) (hw : Int.tmod wh ((4 : Nat) : Int) = 0) : okObs (jD4_0 sd i0 mn wh) := by
  obtain ⟨v0, v1, v2, v3⟩ := And.intro (po_v sd (i := ((0 : Nat) : Int)) (by decide) (by decide)) <| And.intro (po_v sd (i := ((1 : Nat) : Int)) (by decide) (by decide)) <| And.intro (po_v sd (i := ((2 : Nat) : Int)) (by decide) (by decide)) <| po_v sd (i := ((3 : Nat) : Int)) (by decide) (by decide)
  have hc := c_rg sd
  generalize Int.tmod sd 64 + 64 = c at *
  unfold jD4_0
  refine okO_cons (by rw [wr_rg]; rfl) ?_
  refine okO_cons (by rw [wr_rg]; rfl) ?_
  refine okO_cons (by rw [wr_rg]; rfl) ?_
  refine okO_cons (by rw [wr_rg]; rfl) ?_
  iterate 16 refine okO_cons rfl ?_
  simp only [jc0, jc1, jc2, jc3, jc61, jc33, jc4, jc5, jc6, jc7, jc8, jc62, jc10, jc63, jc64, jc65, jc66, jc67, jc68, jc69, jc70, jc72, jc73, jc74, jc75, jc35, jc36, jc37, jc38, jc39, jc40, jc42, jc43, jc44, jc11, jc12, jc13, jc14, jc16, jc17, jc18, jc20, jc76, jc77, jc46, jc22, hm, hw, v0, v1, v2, v3, okO_c, okO_n, jP, ilt_dec, ieq_dec, inR_dec, rgI_dec, keq_dec, Key.i.injEq, Key.p.injEq, Key.t.injEq, Int.ofNat_eq_natCast]
  clear v3 v2 v1 v0
  repeat' apply And.intro
  all_goals first | omega | exact rfl | exact True.intro
noncomputable def jD4_1 (sd i0 mn wh : Int) : Obs := [jc71 i0, jc41 i0, jc15 i0, jc19 i0, (false, false), (true, true), (true, true), (true, true), (false, false), (true, true), (true, true), (true, true), (false, false), (false, false), (false, false), (true, true), (true, true), (false, false), (false, false), (true, true), jc23 sd, jc24 sd, jc14 sd, jc25 sd, jc16 sd, jc78 sd, jc47 sd, jc26 sd, jc27 sd, jc28 sd, jc12 sd, jc29 sd, jc30 sd, jc79 wh, jc80 wh, jc10 wh, jc63 sd, jc64 sd, jc65 sd, jc66 sd, jc67 sd, jc68 sd, jc69 sd, jc70 sd, jc72 sd, jc73 sd, jc74 sd, jc75 sd, jc35 sd, jc36 sd, jc37 sd, jc38 sd, jc39 sd, jc40 sd, jc42 sd, jc43 sd, jc44 sd, jc11 sd, jc13 sd, jc17 sd, jc18 sd, jc2 sd, jc20 sd, jc76 mn, jc77 mn, jc46 mn, jc22 mn]
theorem ji4_1 (sd i0 i1 mn wh : Int) : runG kofY tblR 400 3 [.int true .i64 sd, .agg [.int true .i64 i0, .int true .i64 i1], .int true .u8 mn, .int true .u8 wh] (bitsL 163 2914506603628888859243917152744823904700337240124) = some (selL (jD4_1 sd i0 mn wh) 206 8534096151506499441177054966663361110662538096089566594082465028544091699332028258185559647921658151523129080629252950076654590683587869299380277053318076779111175325194961631523571990718559675098683670766133679532968214690601904938247266939922708640154141439144502402066647514265818329703633869917260029650602657799291446156174605046024862511995783087017895013953740073004878692555116764297816654957204682084125489222867262748925057830023301453192270515464064250107432189288385122271490029521290379467590435722683985811010942229859576947740849373664160754931325006193157403744677395427205231655382642774463906104480772, [.bool false true], 0) := by kernel_rfl
theorem jo4_1 {sd i0 mn wh : Int} (m0 : 0 ≤ mn) (m1 : mn ≤ 255) (w0 : 0 ≤ wh) (w1 : wh ≤ 255) (hm : Int.tmod mn ((8 : Nat) : Int) = 2) (hw : Int.tmod wh ((4 : Nat) : Int) = 1) : okObs (jD4_1 sd i0 mn wh) := by
  obtain ⟨v0, v1, v2, v3⟩ := And.intro (po_v sd (i := ((0 : Nat) : Int)) (by decide) (by decide)) <| And.intro (po_v sd (i := ((1 : Nat) : Int)) (by decide) (by decide)) <| And.intro (po_v sd (i := ((2 : Nat) : Int)) (by decide) (by decide)) <| po_v sd (i := ((3 : Nat) : Int)) (by decide) (by decide)
  have hc := c_rg sd
  generalize Int.tmod sd 64 + 64 = c at *
  unfold jD4_1
  refine okO_cons (by rw [wr_rg]; rfl) ?_
  refine okO_cons (by rw [wr_rg]; rfl) ?_
  refine okO_cons (by rw [wr_rg]; rfl) ?_
  refine okO_cons (by rw [wr_rg]; rfl) ?_
  iterate 16 refine okO_cons rfl ?_
  simp only [jc23, jc24, jc14, jc25, jc16, jc78, jc47, jc26, jc27, jc28, jc12, jc29, jc30, jc79, jc80, jc10, jc63, jc64, jc65, jc66, jc67, jc68, jc69, jc70, jc72, jc73, jc74, jc75, jc35, jc36, jc37, jc38, jc39, jc40, jc42, jc43, jc44, jc11, jc13, jc17, jc18, jc2, jc20, jc76, jc77, jc46, jc22, hm, hw, v0, v1, v2, v3, okO_c, okO_n, jP, ilt_dec, ieq_dec, inR_dec, rgI_dec, keq_dec, Key.i.injEq, Key.p.injEq, Key.t.injEq, Int.ofNat_eq_natCast]
  clear v3 v2 v1 v0
  repeat' apply And.intro
  all_goals first | omega | exact rfl | exact True.intro
noncomputable def jD4_2 (sd i0 mn wh : Int) : Obs := [jc71 i0, jc41 i0, jc15 i0, jc19 i0, (false, false), (true, true), (true, true), (true, true), (false, false), (false, false), (true, true), (true, true), (true, true), (false, false), (false, false), (false, false), (true, true), (true, true), (false, false), (true, true), jc50 sd, jc51 sd, jc40 sd, jc52 sd, jc42 sd, jc43 sd, jc81 sd, jc53 sd, jc54 sd, jc55 sd, jc56 sd, jc37 sd, jc38 sd, jc57 sd, jc58 sd, jc82 wh, jc83 wh, jc80 wh, jc10 wh, jc63 sd, jc64 sd, jc65 sd, jc66 sd, jc67 sd, jc68 sd, jc69 sd, jc70 sd, jc72 sd, jc73 sd, jc74 sd, jc75 sd, jc35 sd, jc36 sd, jc39 sd, jc44 sd, jc11 sd, jc12 sd, jc13 sd, jc14 sd, jc16 sd, jc17 sd, jc18 sd, jc2 sd, jc20 sd, jc76 mn, jc77 mn, jc46 mn, jc22 mn]
theorem ji4_2 (sd i0 i1 mn wh : Int) : runG kofY tblR 400 3 [.int true .i64 sd, .agg [.int true .i64 i0, .int true .i64 i1], .int true .u8 mn, .int true .u8 wh] (bitsL 167 46608423486233248440564027924875677045919622117436) = some (selL (jD4_2 sd i0 mn wh) 210 9525469782620912160876562367818813271302354344960246812237271137427992545027019945619933296202717100177116196926906689469692023713143087188147522179348846544474103585638578732297359727595889060800952275045328469711277992330467542226496585636285967842219323151810848249499875000601983707459707880777275811915227686720797868000847380807863728950552246897814684564540759763307915073192852119419163599917479534941464111129721898990401766182915800913595830542600655134293232972608942486683316827474960497933589869141095453271842243778234324506431230294772747881713960296890747012522638375113750273670028706342165430603741735469669422084, [.bool false true], 0) := by kernel_rfl
theorem jo4_2 {sd i0 mn wh : Int} (m0 : 0 ≤ mn) (m1 : mn ≤ 255) (w0 : 0 ≤ wh) (w1 : wh ≤ 255) (hm : Int.tmod mn ((8 : Nat) : Int) = 2) (hw : Int.tmod wh ((4 : Nat) : Int) = 2) : okObs (jD4_2 sd i0 mn wh) := by
  obtain ⟨v0, v1, v2, v3⟩ := And.intro (po_v sd (i := ((0 : Nat) : Int)) (by decide) (by decide)) <| And.intro (po_v sd (i := ((1 : Nat) : Int)) (by decide) (by decide)) <| And.intro (po_v sd (i := ((2 : Nat) : Int)) (by decide) (by decide)) <| po_v sd (i := ((3 : Nat) : Int)) (by decide) (by decide)
  have hc := c_rg sd
  generalize Int.tmod sd 64 + 64 = c at *
  unfold jD4_2
  refine okO_cons (by rw [wr_rg]; rfl) ?_
  refine okO_cons (by rw [wr_rg]; rfl) ?_
  refine okO_cons (by rw [wr_rg]; rfl) ?_
  refine okO_cons (by rw [wr_rg]; rfl) ?_
  iterate 16 refine okO_cons rfl ?_
  simp only [jc50, jc51, jc40, jc52, jc42, jc43, jc81, jc53, jc54, jc55, jc56, jc37, jc38, jc57, jc58, jc82, jc83, jc80, jc10, jc63, jc64, jc65, jc66, jc67, jc68, jc69, jc70, jc72, jc73, jc74, jc75, jc35, jc36, jc39, jc44, jc11, jc12, jc13, jc14, jc16, jc17, jc18, jc2, jc20, jc76, jc77, jc46, jc22, hm, hw, v0, v1, v2, v3, okO_c, okO_n, jP, ilt_dec, ieq_dec, inR_dec, rgI_dec, keq_dec, Key.i.injEq, Key.p.injEq, Key.t.injEq, Int.ofNat_eq_natCast]
  clear v3 v2 v1 v0
  repeat' apply And.intro
  all_goals first | omega | exact rfl | exact True.intro
noncomputable def jD4_3 (sd i0 mn wh : Int) : Obs := [jc71 i0, jc41 i0, jc15 i0, jc19 i0, (false, false), (true, true), (true, true), (true, true), (false, false), (false, false), (false, false), (true, true), (true, true), (true, true), (true, true), (true, true), (false, false), (false, false), (false, false), (true, true), jc84 sd, jc85 sd, jc70 sd, jc86 sd, jc72 sd, jc73 sd, jc74 sd, jc87 sd, jc88 sd, jc89 sd, jc90 sd, jc91 sd, jc66 sd, jc67 sd, jc68 sd, jc92 sd, jc93 sd, jc94 wh, jc95 wh, jc83 wh, jc80 wh, jc10 wh, jc63 sd, jc64 sd, jc65 sd, jc69 sd, jc75 sd, jc35 sd, jc36 sd, jc37 sd, jc38 sd, jc39 sd, jc40 sd, jc42 sd, jc43 sd, jc44 sd, jc11 sd, jc12 sd, jc13 sd, jc14 sd, jc16 sd, jc17 sd, jc18 sd, jc2 sd, jc20 sd, jc76 mn, jc77 mn, jc46 mn, jc22 mn]
theorem ji4_3 (sd i0 i1 mn wh : Int) : runG kofY tblR 400 3 [.int true .i64 sd, .agg [.int true .i64 i0, .int true .i64 i1], .int true .u8 mn, .int true .u8 wh] (bitsL 171 745549325221804863646060553231354129126521068075068) = some (selL (jD4_3 sd i0 mn wh) 214 10629640387411192199066507268048926580013450353646055047211192741375305236032985173565981137065297259184220401244309838897190765773543898503670024528999971595702173454132739514052866393485112636164018025601410902474659475024938781181287190548715805082467139125825481587483125538606318241354422140333737407610649711972114862766102314599973351254120351712411457896815312033352192101119960649833137789403340302414814145570321926047760752084292761181649298471674485204962341802234318032050581267504460492818738132446368811251494549331948580613054958034778420069092818097336588075998251834034908087244711937131487373038775968047975145373322442707972, [.bool false true], 0) := by kernel_rfl
theorem jo4_3 {sd i0 mn wh : Int} (m0 : 0 ≤ mn) (m1 : mn ≤ 255) (w0 : 0 ≤ wh) (w1 : wh ≤ 255) (hm : Int.tmod mn ((8 : Nat) : Int) = 2) (hw : Int.tmod wh ((4 : Nat) : Int) = 3) : okObs (jD4_3 sd i0 mn wh) := by
  obtain ⟨v0, v1, v2, v3⟩ := And.intro (po_v sd (i := ((0 : Nat) : Int)) (by decide) (by decide)) <| And.intro (po_v sd (i := ((1 : Nat) : Int)) (by decide) (by decide)) <| And.intro (po_v sd (i := ((2 : Nat) : Int)) (by decide) (by decide)) <| po_v sd (i := ((3 : Nat) : Int)) (by decide) (by decide)
  have hc := c_rg sd
  generalize Int.tmod sd 64 + 64 = c at *
  unfold jD4_3
  refine okO_cons (by rw [wr_rg]; rfl) ?_
  refine okO_cons (by rw [wr_rg]; rfl) ?_
  refine okO_cons (by rw [wr_rg]; rfl) ?_
  refine okO_cons (by rw [wr_rg]; rfl) ?_
  iterate 16 refine okO_cons rfl ?_
  simp only [jc84, jc85, jc70, jc86, jc72, jc73, jc74, jc87, jc88, jc89, jc90, jc91, jc66, jc67, jc68, jc92, jc93, jc94, jc95, jc83, jc80, jc10, jc63, jc64, jc65, jc69, jc75, jc35, jc36, jc37, jc38, jc39, jc40, jc42, jc43, jc44, jc11, jc12, jc13, jc14, jc16, jc17, jc18, jc2, jc20, jc76, jc77, jc46, jc22, hm, hw, v0, v1, v2, v3, okO_c, okO_n, jP, ilt_dec, ieq_dec, inR_dec, rgI_dec, keq_dec, Key.i.injEq, Key.p.injEq, Key.t.injEq, Int.ofNat_eq_natCast]
  clear v3 v2 v1 v0
  repeat' apply And.intro
  all_goals first | omega | exact rfl | exact True.intro
end Go.Proofs.YthdnonoheochhaaGreatDoor
