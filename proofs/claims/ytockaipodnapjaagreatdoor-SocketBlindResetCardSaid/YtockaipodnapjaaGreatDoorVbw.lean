/- A machine of symbolic values: SocketBlindReset, walked. -/
import Derived.Test.YtockaipodnapjaaGreatDoorVb1
import Derived.Test.YtockaipodnapjaaGreatDoorVb2
import Derived.Test.YtockaipodnapjaaGreatDoorVb3
namespace Go.Proofs.YtockaipodnapjaaGreatDoor
open Go Go.RowKit
set_option linter.unusedVariables false
set_option maxRecDepth 100000
theorem row_endB {f : FuncId} {args : Array Value} {c : Bool} {w : World} (hc : c = true) (h : Calls Tryz.prog f args w fun e w' => e = .returned ((V.bool true c).den ρ0) ∧ Below w.heap.size w w') : Calls Tryz.prog f args w fun e w' => e = .returned (.bool true) ∧ Below w.heap.size w w' := by
  subst hc; exact h
theorem blindReset_w (a b f m : Int) (w : World) (hw : Glbs w) (ha : inR a = true) (hb : inR b = true) (hf : inR f = true) (hm : inR m = true) : Calls Tryz.prog 5 #[.int .i64 a, .int .i64 b, .int .i64 f, .int .i64 m] w fun e w' => e = .returned (.bool true) ∧ Below w.heap.size w w' := by
  have h1 := pickF_rg a (n := 4294967296) (by decide)
  have h3 := prt_rg h1.1
  have hFr := pickF_rg f (n := Int.ofNat 4294967296) (by decide)
  have hY := pickF_rg m (n := Int.ofNat 301) (by decide)
  have hT := cnT_ok ha hb
  obtain ⟨sa, hsa⟩ : ∃ x, x = pickF a 4294967296 := ⟨_, rfl⟩
  obtain ⟨sb, hsb⟩ : ∃ x, x = pickF b 4294967296 := ⟨_, rfl⟩
  rw [← hsa, ← hsb] at hT
  rw [← hsa] at h3
  obtain ⟨p, hp⟩ : ∃ x, x = prt sa := ⟨_, rfl⟩
  rw [← hp] at hT h3
  obtain ⟨p1, p2⟩ := h3
  obtain ⟨Y, hy⟩ : ∃ x, pickF m (Int.ofNat 301) = x := ⟨_, rfl⟩
  rw [hy] at hY
  obtain ⟨Y0, Y1⟩ := hY
  have Y1 : Y ≤ 300 := by have : Y < 301 := Y1; omega
  obtain ⟨F0, F1⟩ := hFr
  have F1 : pickF f (Int.ofNat 4294967296) < 4294967296 := F1
  have h : JB a b f m sa p Y := ⟨ha, hb, hf, hm, hy, hsa.symm, p1, p2, F0, F1⟩
  have htbl : ∀ Z R : List UInt8, Z = textL Y.toNat 2 → TblOK arS Tryz.prog (tblB Y Z R (cnT a b sa sb p)) := fun Z R hZ =>
    addT_ok (addT_ok (addT_ok (addT_ok tblB0_ok (telC_ok tblB0_ok R)) (pureC_ok (pkB_hit Y))) (pureC_ok (txBr_hit Y0 Y1 hZ))) hT
  by_cases hz : Y = 0
  · have hZ : zN = textL Y.toNat 2 := by rw [hz]; rfl
    have hc : pickF f (Int.ofNat 4294967296) = 0 ∨ (0 < pickF f (Int.ofNat 4294967296) ∧ pickF f (Int.ofNat 4294967296) < 2048) ∨ (2048 ≤ pickF f (Int.ofNat 4294967296) ∧ pickF f (Int.ofNat 4294967296) < 2147483648) ∨ 2147483648 ≤ pickF f (Int.ofNat 4294967296) := by omega
    rcases hc with hF | hF | hF | hF
    · exact vm_row2 (args := [.int true .i64 a, .int true .i64 b, .int true .i64 f, .int true .i64 m]) entrY (htbl zN rN0 hZ) rfl rfl (jiz0 a b f m sa sb p Y) (selL_ok (joz0 h hF) _ _) w hw
    · exact vm_row2 (args := [.int true .i64 a, .int true .i64 b, .int true .i64 f, .int true .i64 m]) entrY (htbl zN rN1 hZ) rfl rfl (jiz1 a b f m sa sb p Y) (selL_ok (joz1 h hF) _ _) w hw
    · exact vm_row2 (args := [.int true .i64 a, .int true .i64 b, .int true .i64 f, .int true .i64 m]) entrY (htbl zN rN2 hZ) rfl rfl (jiz2 a b f m sa sb p Y) (selL_ok (joz2 h hF) _ _) w hw
    · exact vm_row2 (args := [.int true .i64 a, .int true .i64 b, .int true .i64 f, .int true .i64 m]) entrY (htbl zN rN3 hZ) rfl rfl (jiz3 a b f m sa sb p Y) (selL_ok (joz3 h hF) _ _) w hw
  · obtain ⟨Z, hZ⟩ : ∃ z, z = textL Y.toNat 2 := ⟨_, rfl⟩
    have z1 : (Z.length : Int) = Y := by rw [hZ, textL_len]; exact Int.toNat_of_nonneg Y0
    have z0 : 1 ≤ (Z.length : Int) := by omega
    have z2 : (Z.length : Int) ≤ 300 := by omega
    have hc : pickF f (Int.ofNat 4294967296) = 0 ∨ (0 < pickF f (Int.ofNat 4294967296) ∧ (Z.length : Int) + pickF f (Int.ofNat 4294967296) < 2048) ∨ (2048 ≤ (Z.length : Int) + pickF f (Int.ofNat 4294967296) ∧ (Z.length : Int) + pickF f (Int.ofNat 4294967296) < 2147483648) ∨ 2147483648 ≤ (Z.length : Int) + pickF f (Int.ofNat 4294967296) := by omega
    rcases hc with hF | hF | hF | hF
    · exact vm_row2 (args := [.int true .i64 a, .int true .i64 b, .int true .i64 f, .int true .i64 m]) entrY (htbl Z Z hZ) rfl rfl (jip0 a b f m sa sb p Y Z Z) (selL_ok (jop0 z0 z1 z2 rfl h hF) _ _) w hw
    · exact row_endB (leqB_refl _) (vm_row2 (args := [.int true .i64 a, .int true .i64 b, .int true .i64 f, .int true .i64 m]) entrY (htbl Z (Z ++ moreL) hZ) rfl rfl (jip1 a b f m sa sb p Y Z (Z ++ moreL)) (selL_ok (jop1 z0 z1 z2 rfl h hF) _ _) w hw)
    · exact row_endB (leqB_refl _) (vm_row2 (args := [.int true .i64 a, .int true .i64 b, .int true .i64 f, .int true .i64 m]) entrY (htbl Z (Z ++ moreL) hZ) rfl rfl (jip2 a b f m sa sb p Y Z (Z ++ moreL)) (selL_ok (jop2 z0 z1 z2 rfl h hF) _ _) w hw)
    · exact row_endB (leqB_refl _) (vm_row2 (args := [.int true .i64 a, .int true .i64 b, .int true .i64 f, .int true .i64 m]) entrY (htbl Z (Z ++ moreL) hZ) rfl rfl (jip3 a b f m sa sb p Y Z (Z ++ moreL)) (selL_ok (jop3 z0 z1 z2 rfl h hF) _ _) w hw)
end Go.Proofs.YtockaipodnapjaaGreatDoor
