/- A machine of symbolic values: SocketDatagrams, walked. -/
import Derived.Test.YtockaipodnapjaaGreatDoorVd2
import Derived.Test.YtockaipodnapjaaGreatDoorVd3
import Derived.Test.YtockaipodnapjaaGreatDoorVd4
import Derived.Test.YtockaipodnapjaaGreatDoorVd5
namespace Go.Proofs.YtockaipodnapjaaGreatDoor
open Go Go.RowKit
set_option linter.unusedVariables false
set_option maxRecDepth 100000
theorem datagrams_w (a b many size : Int) (w : World) (hw : Glbs w) (ha : inR a = true) (hb : inR b = true) (hm : inR many = true) (hs : inR size = true) : Calls Tryz.prog 4 #[.int .i64 a, .int .i64 b, .int .i64 many, .int .i64 size] w fun e w' => e = .returned (.bool true) ∧ Below w.heap.size w w' := by
  have h := pickF_rg many (n := 13) (by decide)
  obtain ⟨k, hk⟩ := Int.eq_ofNat_of_zero_le h.1
  have hlt : k < 13 := by omega
  have go : ∀ (K J : Nat), pickF many 13 = Int.ofNat K → K ≤ 1000 → J ≤ 1000 → runG kofX (tblD (Int.ofNat K)) 400 4 [.int true .i64 a, .int true .i64 b, .int true .i64 many, .int true .i64 size] (dgC K J) = some (dgL K J a b many size, [.bool false true], 0) →
      Calls Tryz.prog 4 #[.int .i64 a, .int .i64 b, .int .i64 many, .int .i64 size] w fun e w' => e = .returned (.bool true) ∧ Below w.heap.size w w' := fun K J hK h1 h2 hr =>
    vm_row (args := [.int true .i64 a, .int true .i64 b, .int true .i64 many, .int true .i64 size]) (U := .bool false true) entrX (tblD_ok _) rfl rfl hr (dgL_ok ha hb hm hs hK h1 h2) w hw
  match k, hk, hlt with
  | 0, hk, _ => exact go 0 0 hk (by decide) (by decide) (dg_run0 a b many size)
  | 1, hk, _ => exact go 1 1 hk (by decide) (by decide) (dg_run1 a b many size)
  | 2, hk, _ => exact go 2 2 hk (by decide) (by decide) (dg_run2 a b many size)
  | 3, hk, _ => exact go 3 3 hk (by decide) (by decide) (dg_run3 a b many size)
  | 4, hk, _ => exact go 4 4 hk (by decide) (by decide) (dg_run4 a b many size)
  | 5, hk, _ => exact go 5 5 hk (by decide) (by decide) (dg_run5 a b many size)
  | 6, hk, _ => exact go 6 6 hk (by decide) (by decide) (dg_run6 a b many size)
  | 7, hk, _ => exact go 7 7 hk (by decide) (by decide) (dg_run7 a b many size)
  | 8, hk, _ => exact go 8 8 hk (by decide) (by decide) (dg_run8 a b many size)
  | 9, hk, _ => exact go 9 8 hk (by decide) (by decide) (dg_run9 a b many size)
  | 10, hk, _ => exact go 10 8 hk (by decide) (by decide) (dg_run10 a b many size)
  | 11, hk, _ => exact go 11 8 hk (by decide) (by decide) (dg_run11 a b many size)
  | 12, hk, _ => exact go 12 8 hk (by decide) (by decide) (dg_run12 a b many size)
  | k + 13, _, h => omega
end Go.Proofs.YtockaipodnapjaaGreatDoor

