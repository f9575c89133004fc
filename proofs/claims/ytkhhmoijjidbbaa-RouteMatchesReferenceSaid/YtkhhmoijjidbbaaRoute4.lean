/- Contracts of package route, fourth part: the closures of Lookup. -/
import Derived.Test.YtkhhmoijjidbbaaRoute3
namespace Go.Proofs.Ytkhhmoijjidbbaa
open Go.RowKit Go.Sort
set_option linter.unusedVariables false

/-- The k-th network: interfaces first, then routes. -/
def netA (fs : List If) (rs : List Rt) (k : Nat) : Int := if k < fs.length then (ifAt fs k).na else (rtAt rs (k - fs.length)).na
def netB (fs : List If) (rs : List Rt) (k : Nat) : Int := if k < fs.length then (ifAt fs k).nb else (rtAt rs (k - fs.length)).nb

set_option maxHeartbeats 1000000 in
theorem net1_any (fs : List If) (rs : List Rt) (v u : Value) (p q : Nat) (k : Nat) (w : World) (hF : RdI w v fs) (hG : RdR w u rs)
    (hp : w.cell? ⟨p, 0, none⟩ = some v) (hq : w.cell? ⟨q, 0, none⟩ = some u) (hk : k < fs.length + rs.length) :
    Calls Try.prog 27 #[.int .i64 k, .pointer (some ⟨p, 0, none⟩), .pointer (some ⟨q, 0, none⟩)] w fun e w' => e = .returned (.agg #[.int .i64 (netA fs rs k), .int .i64 (netB fs rs k)]) ∧ Below w.heap.size w w' := by
  obtain ⟨a, cap, rfl, hcap, hlen, h1⟩ := hF
  obtain ⟨a2, cap2, rfl, hcap2, hlen2, h2⟩ := hG
  have hpl := block_lt_of_cell hp
  have hql := block_lt_of_cell hq
  by_cases hlt : k < fs.length
  · obtain ⟨b, o, rfl, hc⟩ := h1 (by omega)
    obtain ⟨_, _, c2, c3, _⟩ := hc k hlt
    have hbl := block_lt_of_cell c2
    have HA := Lib.hid (show netA fs rs k = (ifAt fs k).na by simp [netA, hlt])
    have HB := Lib.hid (show netB fs rs k = (ifAt fs k).nb by simp [netB, hlt])
    clear hc h1 h2
    generalize ifAt fs k = x at *
    go_enter Try.func27, Try.ntmps27
    go_wp2
    refine bodyPost_ret (v := .agg #[.int .i64 x.na, .int .i64 x.nb]) (by simp [results, Try.results27, go_sem]) rfl ⟨by rw [HA.out, HB.out], ?_⟩
    exact (Below.refl _ _).alloc (Nat.le_refl _) _
  · obtain ⟨m, rfl⟩ : ∃ m, k = fs.length + m := ⟨k - fs.length, by omega⟩
    obtain ⟨b, o, rfl, hc⟩ := h2 (by omega)
    obtain ⟨c0, c1, _, _⟩ := hc m (by omega)
    have hbl := block_lt_of_cell c0
    have HA := Lib.hid (show netA fs rs (fs.length + m) = (rtAt rs m).na by unfold netA; rw [if_neg hlt]; simp)
    have HB := Lib.hid (show netB fs rs (fs.length + m) = (rtAt rs m).nb by unfold netB; rw [if_neg hlt]; simp)
    clear hc h1 h2
    generalize rtAt rs m = x at *
    have hm : m < rs.length := by omega
    go_enter Try.func27, Try.ntmps27
    go_wp2
    refine bodyPost_ret (v := .agg #[.int .i64 x.na, .int .i64 x.nb]) (by simp [results, Try.results27, go_sem]) rfl ⟨by rw [HA.out, HB.out], ?_⟩
    exact (Below.refl _ _).alloc (Nat.le_refl _) _

theorem run_bits (x y : Value) (w : World) : (Instr.field 25 (.agg #[x, y]) 1).run Try.prog w = .ok y w := by kernel_rfl

abbrev netV (p q : Nat) : Value := .func (.func 27) #[] #[.pointer (some ⟨p, 0, none⟩), .pointer (some ⟨q, 0, none⟩)]

set_option maxHeartbeats 1000000 in
theorem before_any (fs : List If) (rs : List Rt) (v u : Value) (p q r : Nat) (a b : Nat) (w : World) (hF : RdI w v fs) (hG : RdR w u rs)
    (hp : w.cell? ⟨p, 0, none⟩ = some v) (hq : w.cell? ⟨q, 0, none⟩ = some u) (hr : w.cell? ⟨r, 0, none⟩ = some (netV p q)) (ha : a < fs.length + rs.length) (hb : b < fs.length + rs.length) :
    Calls Try.prog 28 #[.int .i64 a, .int .i64 b, .pointer (some ⟨r, 0, none⟩)] w fun e w' => e = .returned (.bool (decide (netB fs rs b < netB fs rs a))) ∧ Below w.heap.size w w' := by
  have k0 := cell_regrown hr
  have rb := run_bits
  have n1 := fun (x : Nat) (hx : x < fs.length + rs.length) (d : Nat) (os : Array Obj) => net1_any fs rs v u p q x (grow (redrawn w d) os) (hF.stay (below_regrown w d os)) (hG.stay (below_regrown w d os)) (cell_regrown hp d os) (cell_regrown hq d os) hx
  have N1 := Lib.hid n1
  clear n1 hr
  go_enter Try.func28, Try.ntmps28
  go_wp2_with fail
  refine wp_region_B (by kernel_rfl) (by kernel_rfl) ?_
  repeat (go_big_quiet_step ((go_at_call 27; exact Calls.regrown_of (N1.out _ (by assumption) _ _))))
  refine wpQuiet_nil ?_
  intro w3 hb3
  clear k0
  go_wp2
  go_ret
  exact ⟨rfl, hb3⟩

set_option maxHeartbeats 1000000 in
theorem candidates_any (many to : Int) (p q : Nat) (w : World) :
    Calls Try.prog 30 #[.int .i64 many, netV p q, .int .i64 to] w fun e w' => e = .returned (.func (.func 37) #[] #[.pointer (some ⟨w.heap.size, 0, none⟩), .pointer (some ⟨w.heap.size + 1, 0, none⟩), .pointer (some ⟨w.heap.size + 1 + 1, 0, none⟩)]) ∧ ((w.alloc (.cells #[.int .i64 many] 3)).alloc (.cells #[netV p q] 62)).alloc (.cells #[.int .i64 to] 3) = w' := by
  go_enter Try.func30, Try.ntmps30
  go_wp2
  go_ret
  exact ⟨rfl, rfl⟩

end Go.Proofs.Ytkhhmoijjidbbaa
