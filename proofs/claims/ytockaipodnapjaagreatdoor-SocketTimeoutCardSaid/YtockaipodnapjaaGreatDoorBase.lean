/- Plain helpers for the walks: worlds that only grow, cells that stay, masks of low bits. No program in sight. -/
import Derived.WalkKit
import Derived.Lib.Hide
import Derived.Deep.QuietTactic
import Derived.BigQuiet
import Derived.Lib.QuietBelow
namespace Go.Proofs.YtockaipodnapjaaGreatDoor
open Go.RowKit Go.Sort

/-- A fact laid behind Hid (squeeze.py writes it for the library's hid). -/
theorem Hi {p : Prop} (h : p) : Hid p := h
theorem l_S {α : Type} {a b : α} {l : List α} {n : Nat} : (a :: l).set (n + 1) b = a :: l.set n b := rfl
theorem l_Z {α : Type} {a b : α} {l : List α} : (a :: l).set 0 b = b :: l := rfl
theorem l_T {α : Type} {l : List α} {i : Nat} {a : α} : l.toArray.setIfInBounds i a = (l.set i a).toArray := List.setIfInBounds_toArray ..
theorem pow_bd (b : Int) (hb : 0 ≤ b) (hb' : b ≤ 32) : 1 ≤ (2:Int) ^ (32 - b).toNat ∧ (2:Int) ^ (32 - b).toNat ≤ 4294967296 := by
  have h1 : (32 - b).toNat ≤ 32 := by omega
  have h2 : 2 ^ (32 - b).toNat ≤ 2 ^ 32 := Nat.pow_le_pow_right (by decide) h1
  have h3 : 0 < 2 ^ (32 - b).toNat := Nat.pow_pos (by decide)
  have h4 : ((2 ^ (32 - b).toNat : Nat) : Int) = (2:Int) ^ (32 - b).toNat := by simp
  omega
theorem wrap_in (x : Int) (h : -9223372036854775808 ≤ x) (h' : x ≤ 9223372036854775807) : wrap64 x = x := IntWalk.wrap64_in _ (by omega)

theorem ofInt_mask (k : Nat) (hk : k ≤ 32) : (BitVec.ofInt 64 ((2:Int) ^ k - 1)).toNat = 2 ^ k - 1 := by
  rw [BitVec.toNat_ofInt]
  have h1 : 2 ^ k ≤ 2 ^ 32 := Nat.pow_le_pow_right (by decide) hk
  have h3 : 0 < 2 ^ k := Nat.pow_pos (by decide)
  have h4 : ((2 ^ k : Nat) : Int) = (2:Int) ^ k := by simp
  rw [← h4]
  omega

theorem and_mask (x : Int) (k : Nat) (h0 : 0 ≤ x) (hx : x ≤ 4294967295) (hk : k ≤ 32) : bits .and .i64 x ((2:Int) ^ k - 1) = x % (2:Int) ^ k := by
  have hm := ofInt_mask k hk
  have key : (BitVec.ofInt 64 x &&& BitVec.ofInt 64 ((2:Int) ^ k - 1)).toNat = (x % ((2 ^ 64 : Nat) : Int)).toNat % 2 ^ k := by
    rw [BitVec.toNat_and, BitVec.toNat_ofInt, hm, Nat.and_two_pow_sub_one_eq_mod]
  show IntKind.i64.wrap ((BitVec.ofInt 64 x &&& BitVec.ofInt 64 ((2:Int) ^ k - 1)).toNat : Nat) = _
  rw [key, IntKind.wrap_i64]
  obtain ⟨n, rfl⟩ := Int.eq_ofNat_of_zero_le h0
  have e1 : (((n : Int)) % ((2 ^ 64 : Nat) : Int)).toNat = n := by omega
  rw [e1]
  have e2 : (n : Int) % (2:Int) ^ k = ((n % 2 ^ k : Nat) : Int) := by simp
  rw [e2]
  have e3 : n % 2 ^ k ≤ n := Nat.mod_le _ _
  generalize n % 2 ^ k = m at *
  omega

theorem andNot_mask (x : Int) (k : Nat) (h0 : 0 ≤ x) (hx : x ≤ 4294967295) (hk : k ≤ 32) : bits .andNot .i64 x ((2:Int) ^ k - 1) = x - x % (2:Int) ^ k := by
  obtain ⟨n, rfl⟩ := Int.eq_ofNat_of_zero_le h0
  have hm := ofInt_mask k hk
  have h1 : 2 ^ k ≤ 2 ^ 32 := Nat.pow_le_pow_right (by decide) hk
  have h3 : 0 < 2 ^ k := Nat.pow_pos (by decide)
  have key : (BitVec.ofInt 64 (n : Int) &&& ~~~ BitVec.ofInt 64 ((2:Int) ^ k - 1)).toNat = n - n % 2 ^ k := by
    have hx' : (BitVec.ofInt 64 (n : Int)).toNat = n := by rw [BitVec.toNat_ofInt]; omega
    have hs : (BitVec.ofInt 64 (n : Int)) = (BitVec.ofInt 64 (n : Int) &&& ~~~ BitVec.ofInt 64 ((2:Int) ^ k - 1)) + (BitVec.ofInt 64 (n : Int) &&& BitVec.ofInt 64 ((2:Int) ^ k - 1)) := by
      generalize BitVec.ofInt 64 (n : Int) = A
      generalize BitVec.ofInt 64 ((2:Int) ^ k - 1) = B
      rw [BitVec.add_eq_or_of_and_eq_zero _ _ (by ext i; simp; intro h h2 h3; simp_all)]
      ext i; simp; cases A[i] <;> cases B[i] <;> simp
    have hand : (BitVec.ofInt 64 (n : Int) &&& BitVec.ofInt 64 ((2:Int) ^ k - 1)).toNat = n % 2 ^ k := by
      rw [BitVec.toNat_and, hx', hm, Nat.and_two_pow_sub_one_eq_mod]
    have hle : (BitVec.ofInt 64 (n : Int) &&& ~~~ BitVec.ofInt 64 ((2:Int) ^ k - 1)).toNat ≤ n := by
      rw [BitVec.toNat_and, hx']; exact Nat.and_le_left
    have h5 := congrArg BitVec.toNat hs
    rw [BitVec.toNat_add, hand, hx'] at h5
    have e3 : n % 2 ^ k ≤ n := Nat.mod_le _ _
    rw [Nat.mod_eq_of_lt (by omega)] at h5
    omega
  show IntKind.i64.wrap ((BitVec.ofInt 64 (n : Int) &&& ~~~ BitVec.ofInt 64 ((2:Int) ^ k - 1)).toNat : Nat) = _
  rw [key, IntKind.wrap_i64]
  have e2 : (n : Int) % (2:Int) ^ k = ((n % 2 ^ k : Nat) : Int) := by simp
  rw [e2]
  have e3 : n % 2 ^ k ≤ n := Nat.mod_le _ _
  generalize n % 2 ^ k = m at *
  omega

/-- A cell stays as it was where the world has only grown. -/
theorem keep {w w' : World} {a : Addr} {v : Value} (hb : Below w.heap.size w w') (h : w.cell? a = some v) : w'.cell? a = some v := by
  rw [hb.cell (block_lt_of_cell h)]; exact h

/-- A region that draws, over worlds that only grow; behind it any such world. -/
theorem wp_region_B {P : Program} {id : Nat} {Q : Exit → Act → World → Prop} {a : Act} {w : World} {l : List Oper} (hm : P.follows .mixedOrders = true) (hB : Region.lexB .any l.toArray = true)
    (h : wpQuiet P l.toArray (fun w' => ∃ p : Regrown, w' = grow (redrawn w p.d) p.os) (fun a' => ∀ w', Below w.heap.size w w' → Q .normal a' w') l a) : (Code.region id l.toArray true).wp P Q a w := by
  refine wp_region_quiet (C := fun w' => ∃ p : Regrown, w' = grow (redrawn w p.d) p.os) hm hB ⟨⟨w.drawn + 1, #[]⟩, by rw [grow_empty]; rfl⟩ ?_
  have e : (fun a' => ∀ w', Below w.heap.size w w' → Q .normal a' w') = (fun a' => ∀ w', (∃ p : Regrown, w' = grow (redrawn w p.d) p.os) → Q .normal a' w') := by
    funext a'
    apply propext
    constructor
    · rintro H w' ⟨p, rfl⟩; exact H _ (below_regrown _ _ _)
    · intro H w' hb; exact H _ (regrown_of_below hb)
  rw [e] at h
  simpa using h

theorem ret_bool {a b : Bool} (h : a = b) : Ending.returned (.bool a) = .returned (.bool b) := by rw [h]
theorem ret_i64 {a b : Int} (h : a = b) : Ending.returned (.int .i64 a) = .returned (.int .i64 b) := by rw [h]

theorem below_mid {w W w' : World} (h : Below w.heap.size w W) (h' : Below W.heap.size W w') : Below w.heap.size w w' := h.trans (h'.mono h.size)

end Go.Proofs.YtockaipodnapjaaGreatDoor
