/- A machine of symbolic values: SocketCallsInOrder, walked. -/
import Derived.Test.YtockaipodnapjaaGreatDoorVj1
import Derived.Test.YtockaipodnapjaaGreatDoorVj2
import Derived.Test.YtockaipodnapjaaGreatDoorVj3
import Derived.Test.YtockaipodnapjaaGreatDoorVj4
namespace Go.Proofs.YtockaipodnapjaaGreatDoor
open Go Go.RowKit
set_option linter.unusedVariables false
set_option maxRecDepth 100000
theorem row_endJ {f : FuncId} {args : Array Value} {c : Bool} {w : World} (hc : c = true) (h : Calls Tryz.prog f args w fun e w' => e = .returned ((V.bool true c).den ρ0) ∧ Below w.heap.size w w') : Calls Tryz.prog f args w fun e w' => e = .returned (.bool true) ∧ Below w.heap.size w w' := by
  subst hc; exact h
theorem callsInOrder_w (a b m e : Int) (w : World) (hw : Glbs w) (ha : inR a = true) (hb : inR b = true) (hm : inR m = true) (he : inR e = true) : Calls Tryz.prog 3 #[.int .i64 a, .int .i64 b, .int .i64 m, .int .i64 e] w fun e w' => e = .returned (.bool true) ∧ Below w.heap.size w w' := by
  have h1 := pickF_rg a (n := 4294967296) (by decide)
  have h3 := prt_rg h1.1
  have hX := pickF_rg e (n := Int.ofNat 50) (by decide)
  have hY := pickF_rg m (n := Int.ofNat 491) (by decide)
  have hT := cnT_ok ha hb
  obtain ⟨sa, hsa⟩ : ∃ x, x = pickF a 4294967296 := ⟨_, rfl⟩
  obtain ⟨sb, hsb⟩ : ∃ x, x = pickF b 4294967296 := ⟨_, rfl⟩
  rw [← hsa, ← hsb] at hT
  rw [← hsa] at h3
  obtain ⟨p, hp⟩ : ∃ x, x = prt sa := ⟨_, rfl⟩
  rw [← hp] at hT h3
  obtain ⟨p1, p2⟩ := h3
  obtain ⟨X, hx⟩ : ∃ x, pickF e (Int.ofNat 50) = x := ⟨_, rfl⟩
  obtain ⟨Y, hy⟩ : ∃ x, pickF m (Int.ofNat 491) = x := ⟨_, rfl⟩
  rw [hx] at hX
  rw [hy] at hY
  obtain ⟨X0, X1⟩ := hX
  obtain ⟨Y0, Y1⟩ := hY
  have X1 : X ≤ 49 := by have : X < 50 := X1; omega
  have Y1 : Y ≤ 490 := by have : Y < 491 := Y1; omega
  obtain ⟨Z, hZ⟩ : ∃ z, z = textL (Int.add 10 Y).toNat 9 := ⟨_, rfl⟩
  have z1 : (Z.length : Int) = 10 + Y := by
    rw [hZ, textL_len]
    exact Int.toNat_of_nonneg (show 0 ≤ 10 + Y by omega)
  have htbl : TblOK arS Tryz.prog (tblJ X Y Z (cnT a b sa sb p)) := addT_ok (addT_ok (addT_ok (addT_ok tblO_ok (takeC_ok tblO_ok Z)) (pureC_ok (pkJ_hit X Y))) (pureC_ok (txJ_hit Y0 Y1 hZ))) hT
  have z0 : 10 ≤ (Z.length : Int) := by omega
  have z2 : (Z.length : Int) ≤ 500 := by omega
  have h : JH a b m e p X Y Z := ⟨ha, hb, hm, he, hy, hx, X0, X1, p1, p2, z0, z1, z2⟩
  have hc : (Z.length : Int) ≤ 1 + X ∨ (1 + 1 * X < (Z.length : Int) ∧ (Z.length : Int) ≤ 2 + 2 * X) ∨ (2 + 2 * X < (Z.length : Int) ∧ (Z.length : Int) ≤ 3 + 3 * X) ∨ (3 + 3 * X < (Z.length : Int) ∧ (Z.length : Int) ≤ 4 + 4 * X) ∨ (4 + 4 * X < (Z.length : Int) ∧ (Z.length : Int) ≤ 5 + 5 * X) ∨ (5 + 5 * X < (Z.length : Int) ∧ (Z.length : Int) ≤ 6 + 6 * X) ∨ (6 + 6 * X < (Z.length : Int) ∧ (Z.length : Int) ≤ 7 + 7 * X) ∨ (7 + 7 * X < (Z.length : Int) ∧ (Z.length : Int) ≤ 8 + 8 * X) ∨ (8 + 8 * X < (Z.length : Int) ∧ (Z.length : Int) ≤ 9 + 9 * X) ∨ (9 + 9 * X < (Z.length : Int) ∧ (Z.length : Int) < 10 + 10 * X ∧ (Z.length : Int) < 500) ∨ ((Z.length : Int) = 10 + 10 * X ∧ (Z.length : Int) < 500) ∨ (10 + 10 * X < (Z.length : Int) ∧ (Z.length : Int) < 500) ∨ ((Z.length : Int) = 500 ∧ X < 49) ∨ ((Z.length : Int) = 500 ∧ X = 49) := by omega
  rcases hc with hi | ⟨lo, hi⟩ | ⟨lo, hi⟩ | ⟨lo, hi⟩ | ⟨lo, hi⟩ | ⟨lo, hi⟩ | ⟨lo, hi⟩ | ⟨lo, hi⟩ | ⟨lo, hi⟩ | ⟨lo, hi, n5⟩ | ⟨lo, n5⟩ | ⟨lo, n5⟩ | ⟨n5, lo⟩ | ⟨n5, lo⟩
  · exact row_endJ (jw1 h hi) (vm_row2 (args := [.int true .i64 a, .int true .i64 b, .int true .i64 m, .int true .i64 e]) entrX htbl rfl rfl (ji1 a b m e sa sb p X Y Z) (selL_ok (jo1 h hi) _ _) w hw)
  · exact row_endJ (jw2 h lo hi) (vm_row2 (args := [.int true .i64 a, .int true .i64 b, .int true .i64 m, .int true .i64 e]) entrX htbl rfl rfl (ji2 a b m e sa sb p X Y Z) (selL_ok (jo2 h lo hi) _ _) w hw)
  · exact row_endJ (jw3 h lo hi) (vm_row2 (args := [.int true .i64 a, .int true .i64 b, .int true .i64 m, .int true .i64 e]) entrX htbl rfl rfl (ji3 a b m e sa sb p X Y Z) (selL_ok (jo3 h lo hi) _ _) w hw)
  · exact row_endJ (jw4 h lo hi) (vm_row2 (args := [.int true .i64 a, .int true .i64 b, .int true .i64 m, .int true .i64 e]) entrX htbl rfl rfl (ji4 a b m e sa sb p X Y Z) (selL_ok (jo4 h lo hi) _ _) w hw)
  · exact row_endJ (jw5 h lo hi) (vm_row2 (args := [.int true .i64 a, .int true .i64 b, .int true .i64 m, .int true .i64 e]) entrX htbl rfl rfl (ji5 a b m e sa sb p X Y Z) (selL_ok (jo5 h lo hi) _ _) w hw)
  · exact row_endJ (jw6 h lo hi) (vm_row2 (args := [.int true .i64 a, .int true .i64 b, .int true .i64 m, .int true .i64 e]) entrX htbl rfl rfl (ji6 a b m e sa sb p X Y Z) (selL_ok (jo6 h lo hi) _ _) w hw)
  · exact row_endJ (jw7 h lo hi) (vm_row2 (args := [.int true .i64 a, .int true .i64 b, .int true .i64 m, .int true .i64 e]) entrX htbl rfl rfl (ji7 a b m e sa sb p X Y Z) (selL_ok (jo7 h lo hi) _ _) w hw)
  · exact row_endJ (jw8 h lo hi) (vm_row2 (args := [.int true .i64 a, .int true .i64 b, .int true .i64 m, .int true .i64 e]) entrX htbl rfl rfl (ji8 a b m e sa sb p X Y Z) (selL_ok (jo8 h lo hi) _ _) w hw)
  · exact row_endJ (jw9 h lo hi) (vm_row2 (args := [.int true .i64 a, .int true .i64 b, .int true .i64 m, .int true .i64 e]) entrX htbl rfl rfl (ji9 a b m e sa sb p X Y Z) (selL_ok (jo9 h lo hi) _ _) w hw)
  · exact row_endJ (jw10a h lo hi n5) (vm_row2 (args := [.int true .i64 a, .int true .i64 b, .int true .i64 m, .int true .i64 e]) entrX htbl rfl rfl (ji10a a b m e sa sb p X Y Z) (selL_ok (jo10a h lo hi n5) _ _) w hw)
  · exact row_endJ (jw10e h lo n5) (vm_row2 (args := [.int true .i64 a, .int true .i64 b, .int true .i64 m, .int true .i64 e]) entrX htbl rfl rfl (ji10e a b m e sa sb p X Y Z) (selL_ok (jo10e h lo n5) _ _) w hw)
  · exact row_endJ (jw10b h lo n5) (vm_row2 (args := [.int true .i64 a, .int true .i64 b, .int true .i64 m, .int true .i64 e]) entrX htbl rfl rfl (ji10b a b m e sa sb p X Y Z) (selL_ok (jo10b h lo n5) _ _) w hw)
  · exact row_endJ (jw10c h n5 lo) (vm_row2 (args := [.int true .i64 a, .int true .i64 b, .int true .i64 m, .int true .i64 e]) entrX htbl rfl rfl (ji10c a b m e sa sb p X Y Z) (selL_ok (jo10c h n5 lo) _ _) w hw)
  · exact row_endJ (jw10d h n5 lo) (vm_row2 (args := [.int true .i64 a, .int true .i64 b, .int true .i64 m, .int true .i64 e]) entrX htbl rfl rfl (ji10d a b m e sa sb p X Y Z) (selL_ok (jo10d h n5 lo) _ _) w hw)
end Go.Proofs.YtockaipodnapjaaGreatDoor
