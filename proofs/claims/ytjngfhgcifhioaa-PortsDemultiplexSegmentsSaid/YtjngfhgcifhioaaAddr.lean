/- Contracts of package addr (Valid, ValidPrefix, Contains) and of its reference (Valid, size, ValidPrefix, Contains): each returns what the plain function says, and changes no memory that was there. -/
import Derived.Test.YtjngfhgcifhioaaBase
import Derived.Test.YtjngfhgcifhioaaProg
namespace Go.Proofs.Ytjngfhgcifhioaa
open Go.RowKit Go.Sort
set_option linter.unusedVariables false
set_option maxRecDepth 100000

def validB (a : Int) : Bool := decide (0 ≤ a ∧ a ≤ 4294967295)
def uniB (a : Int) : Bool := decide (1 ≤ a ∧ a ≤ 4294967294)
def vpB (a b : Int) : Bool := decide (validB a = true ∧ 0 ≤ b ∧ b ≤ 32 ∧ a % (2:Int) ^ (32 - b).toNat = 0)
def conB (a b x : Int) : Bool := vpB a b && (validB x && decide (x / (2:Int) ^ (32 - b).toNat = a / (2:Int) ^ (32 - b).toNat))

set_option maxHeartbeats 400000 in
theorem valid_any (a : Int) (w : World) :
    Calls Try.prog 13 #[.int .i64 a] w fun e w' => e = .returned (.bool (validB a)) ∧ Below w.heap.size w w' := by
  go_enter Try.func13, Try.ntmps13
  go_wp2
  all_goals go_ret
  all_goals exact ⟨by simp [validB]; omega, Below.refl _ _⟩

theorem host1_any (q o : Nat) (b : Int) (w : World) (hb : 0 ≤ b) (hb' : b ≤ 32) (hc : w.cell? ⟨q, o + 1, none⟩ = some (.int .i64 b)) :
    Calls Try.prog 69 #[.pointer (some ⟨q, o, none⟩)] w fun e w' => e = .returned (.int .i64 ((2:Int) ^ (32 - b).toNat - 1)) ∧ Below w.heap.size w w' := by
  go_enter Try.func69, Try.ntmps69
  go_wp2
  go_ret
  refine ⟨?_, Below.refl _ _⟩
  have := pow_bd b hb hb'
  show Ending.returned (.int .i64 (wrap64 (wrap64 (2 ^ (32 - b).toNat) - 1))) = _
  rw [wrap_in (2 ^ (32 - b).toNat) (by omega) (by omega), wrap_in _ (by omega) (by omega)]

theorem host_any (a b : Int) (w : World) :
    Calls Try.prog 67 #[.agg #[.int .i64 a, .int .i64 b]] w fun e w' => e = .returned (.func (.func 69) #[] #[.pointer (some ⟨w.heap.size, 0, none⟩)]) ∧ w.alloc (.cells #[.int .i64 a, .int .i64 b] 72) = w' := by
  go_enter Try.func67, Try.ntmps67
  go_wp2
  go_ret
  exact ⟨rfl, rfl⟩

theorem vp_bits (a b : Int) (ha : validB a = true) (h0 : 0 ≤ b) (h1 : b ≤ 32) : (bits .and .i64 a ((2:Int) ^ (32 - b).toNat - 1) == 0) = vpB a b := by
  simp only [validB, decide_eq_true_eq] at ha
  rw [and_mask _ _ ha.1 ha.2 (by omega)]
  simp [vpB, validB, ha, h0, h1]
  rw [Bool.eq_iff_iff]; simp

theorem two_new (W : World) (c : Array Value) (t : TypeId) (o : Obj) (i : Nat) : ((W.alloc (.cells c t)).alloc o).cell? ⟨W.heap.size, i, none⟩ = c[i]? := by
  simp

set_option maxHeartbeats 1000000 in
theorem validPrefix_any (a b : Int) (w : World) :
    Calls Try.prog 56 #[.agg #[.int .i64 a, .int .i64 b]] w fun e w' => e = .returned (.bool (vpB a b)) ∧ Below w.heap.size w w' := by
  by_cases hv : validB a = true
  case neg =>
    have hv' : validB a = false := by simpa using hv
    have hr : vpB a b = false := by simp [vpB, hv']
    have HR := Lib.hid hr
    clear hr hv
    go_enter Try.func56, Try.ntmps56
    go_wp2_with (first | (go_at_call 13; refine (valid_any _ _).mono ?_; rintro e w' ⟨rfl, hb⟩))
    go_ret
    exact ⟨by rw [HR.out]; rfl, (((Below.refl _ _).alloc (Nat.le_refl _) _)).trans (hb.mono (by simp))⟩
  case pos =>
    by_cases h0 : 0 ≤ b
    · by_cases h1 : b ≤ 32
      · have HR := Lib.hid (vp_bits a b hv h0 h1)
        go_enter Try.func56, Try.ntmps56
        go_wp2_with (first | (go_at_call 13; refine (valid_any _ _).mono ?_; rintro e w1 ⟨rfl, hb⟩; have c0 := keep hb (a := ⟨w.heap.size, 0, none⟩) (v := .int .i64 a) (by simp); have c1 := keep hb (a := ⟨w.heap.size, 1, none⟩) (v := .int .i64 b) (by simp); have hB := below_mid ((Below.refl _ _).alloc (Nat.le_refl _) _) hb; clear hb) | (go_at_call 67; refine (host_any _ _ _).mono ?_; rintro e w' ⟨rfl, rfl⟩))
        have k0 := cell_regrown (keep ((Below.refl _ _).alloc (Nat.le_refl _) (.cells #[.int .i64 a, .int .i64 b] 72)) c0)
        have k1 := cell_regrown (w := w1.alloc (.cells #[.int .i64 a, .int .i64 b] 72)) (a := ⟨w1.heap.size, 0 + 1, none⟩) (v := .int .i64 b) (by simp)
        refine wp_region_B (by kernel_rfl) (by kernel_rfl) ?_
        repeat (go_big_quiet_step ((go_at_call 69; exact Calls.regrown_of (host1_any _ _ b _ (by omega) (by omega) (k1 _ _)))))
        refine wpQuiet_nil ?_
        intro w2 hb2
        have hB2 := below_mid (hB.alloc hB.size _) hb2
        clear k0 k1
        go_wp2
        go_ret
        exact ⟨by rw [← HR.out]; rfl, hB2⟩
      · have hr : vpB a b = false := by simp [vpB, h1]
        have HR := Lib.hid hr
        clear hr
        go_enter Try.func56, Try.ntmps56
        go_wp2_with (first | (go_at_call 13; refine (valid_any _ _).mono ?_; rintro e w1 ⟨rfl, hb⟩; have c0 := keep hb (a := ⟨w.heap.size, 0, none⟩) (v := .int .i64 a) (by simp); have c1 := keep hb (a := ⟨w.heap.size, 1, none⟩) (v := .int .i64 b) (by simp); have hB := below_mid ((Below.refl _ _).alloc (Nat.le_refl _) _) hb; clear hb))
        go_ret
        exact ⟨by rw [HR.out]; rfl, hB⟩
    · have hr : vpB a b = false := by simp [vpB, h0]
      have HR := Lib.hid hr
      clear hr
      go_enter Try.func56, Try.ntmps56
      go_wp2_with (first | (go_at_call 13; refine (valid_any _ _).mono ?_; rintro e w1 ⟨rfl, hb⟩; have c0 := keep hb (a := ⟨w.heap.size, 0, none⟩) (v := .int .i64 a) (by simp); have c1 := keep hb (a := ⟨w.heap.size, 1, none⟩) (v := .int .i64 b) (by simp); have hB := below_mid ((Below.refl _ _).alloc (Nat.le_refl _) _) hb; clear hb))
      go_ret
      exact ⟨by rw [HR.out]; rfl, hB⟩

theorem vpB_parts {a b : Int} (h : vpB a b = true) : 0 ≤ a ∧ a ≤ 4294967295 ∧ 0 ≤ b ∧ b ≤ 32 ∧ a % (2:Int) ^ (32 - b).toNat = 0 := by
  simp [vpB, validB] at h; omega

theorem con_bits (a b x : Int) (hv : vpB a b = true) (hx : validB x = true) : (bits .andNot .i64 x ((2:Int) ^ (32 - b).toNat - 1) == a) = conB a b x := by
  obtain ⟨h1, h2, h3, h4, h5⟩ := vpB_parts hv
  have hx' := hx
  simp only [validB, decide_eq_true_eq] at hx'
  rw [andNot_mask _ _ hx'.1 hx'.2 (by omega)]
  simp only [conB, hv, hx, Bool.true_and]
  have hp := pow_bd b h3 h4
  generalize (2:Int) ^ (32 - b).toNat = m at *
  have e1 := Int.mul_ediv_add_emod x m
  have e2 := Int.mul_ediv_add_emod a m
  rw [Bool.eq_iff_iff]
  simp only [beq_iff_eq, decide_eq_true_eq]
  constructor
  · intro h
    have : m * (x / m) = m * (a / m) := by omega
    exact Int.eq_of_mul_eq_mul_left (by omega) this
  · intro h
    rw [h] at e1; omega

set_option maxHeartbeats 1000000 in
theorem contains_any (a b x : Int) (w : World) :
    Calls Try.prog 60 #[.agg #[.int .i64 a, .int .i64 b], .int .i64 x] w fun e w' => e = .returned (.bool (conB a b x)) ∧ Below w.heap.size w w' := by
  cases hv : vpB a b
  case false =>
    have hr : conB a b x = false := by simp [conB, hv]
    have HR := Lib.hid hr
    clear hr
    go_enter Try.func60, Try.ntmps60
    go_wp2_with (first | (go_at_call 56; refine (validPrefix_any _ _ _).mono ?_; rintro e w1 ⟨rfl, hb⟩; have hB := below_mid ((Below.refl _ _).alloc (Nat.le_refl _) _) hb; clear hb))
    go_ret
    exact ⟨by rw [HR.out]; rfl, hB⟩
  case true =>
    cases hx : validB x
    case false =>
      have hr : conB a b x = false := by simp [conB, hx]
      have HR := Lib.hid hr
      clear hr
      go_enter Try.func60, Try.ntmps60
      go_wp2_with (first | (go_at_call 56; refine (validPrefix_any _ _ _).mono ?_; rintro e w1 ⟨rfl, hb⟩; have hB := below_mid ((Below.refl _ _).alloc (Nat.le_refl _) _) hb; clear hb) | (go_at_call 13; refine (valid_any _ _).mono ?_; rintro e w2 ⟨rfl, hb⟩; have hB2 := below_mid hB hb; clear hb))
      go_ret
      exact ⟨by rw [HR.out]; rfl, hB2⟩
    case true =>
      have HR := Lib.hid (con_bits a b x hv hx)
      have HV := Lib.hid (vpB_parts hv)
      go_enter Try.func60, Try.ntmps60
      go_wp2_with (first | (go_at_call 56; refine (validPrefix_any _ _ _).mono ?_; rintro e w1 ⟨rfl, hb⟩; have c0 := keep hb (a := ⟨w.heap.size, 0, none⟩) (v := .int .i64 a) (by simp); have c1 := keep hb (a := ⟨w.heap.size, 1, none⟩) (v := .int .i64 b) (by simp); have hB := below_mid ((Below.refl _ _).alloc (Nat.le_refl _) _) hb; clear hb) | (go_at_call 13; refine (valid_any _ _).mono ?_; rintro e w2 ⟨rfl, hb⟩; replace c0 := keep hb c0; replace c1 := keep hb c1; replace hB := below_mid hB hb; clear hb) | (go_at_call 67; refine (host_any _ _ _).mono ?_; rintro e w' ⟨rfl, rfl⟩))
      have k0 := cell_regrown (keep ((Below.refl _ _).alloc (Nat.le_refl _) (.cells #[.int .i64 a, .int .i64 b] 72)) c0)
      have k1 := cell_regrown (w := w2.alloc (.cells #[.int .i64 a, .int .i64 b] 72)) (a := ⟨w2.heap.size, 0 + 1, none⟩) (v := .int .i64 b) (by simp)
      refine wp_region_B (by kernel_rfl) (by kernel_rfl) ?_
      repeat (go_big_quiet_step ((go_at_call 69; exact Calls.regrown_of (host1_any _ _ b _ (by have := HV.out; omega) (by have := HV.out; omega) (k1 _ _)))))
      refine wpQuiet_nil ?_
      intro w3 hb3
      have hB3 := below_mid (hB.alloc hB.size _) hb3
      clear k0 k1
      go_wp2
      go_ret
      exact ⟨by rw [← HR.out]; rfl, hB3⟩

end Go.Proofs.Ytjngfhgcifhioaa
