/- Contract of Same of the reference of chapter 20. Printed by wip/tools/gen20q.py. -/
import Derived.Test.YtapeljiopbkjlaaGreatDoorCdat
import Derived.Test.YtapeljiopbkjlaaGreatDoorRset
namespace Go.Proofs.YtapeljiopbkjlaaGreatDoor
open Go.RowKit Go.Sort
set_option linter.unusedVariables false
set_option maxRecDepth 100000

def rcEq (a b : Rc) : Bool := (a.nm.toList == b.nm.toList) && ((a.kd == b.kd) && ((a.tt == b.tt) && ((a.ad == b.ad) && (a.to.toList == b.to.toList))))
theorem rcEq_iff (a b : Rc) : rcEq a b = true ↔ a = b := by
  obtain ⟨a0, a1, a2, a3, a4⟩ := a
  obtain ⟨b0, b1, b2, b3, b4⟩ := b
  simp only [rcEq, Bool.and_eq_true, beq_iff_eq, Rc.mk.injEq]
  exact ⟨fun ⟨h0, h1, h2, h3, h4⟩ => ⟨bytes_ext h0, h1, h2, h3, bytes_ext h4⟩, fun ⟨h0, h1, h2, h3, h4⟩ => ⟨by rw [h0], h1, h2, h3, by rw [h4]⟩⟩
theorem stRc : Tryz.prog.stoodInHeld 28 = false := by kernel_rfl
theorem run_eqRc (a b : Rc) (w : World) : (Op.equalIn 10000 28 (rcV a) (rcV b)).run Tryz.prog w = .ok (rcEq a b) w := by
  have hu : Tryz.prog.underlying 28 = some (.struct (Tryz.prog.fieldsOf 28)) := by kernel_rfl
  rw [run_equalIn_agg w 9999 28 _ _ hu stRc]
  obtain ⟨a0, a1, a2, a3, a4⟩ := a
  obtain ⟨b0, b1, b2, b3, b4⟩ := b
  have hf : ∃ f1 f2 f3 f4 f5 : Field, (Tryz.prog.fieldsOf 28).toList = [f1, f2, f3, f4, f5] ∧ (f1.name ≠ "_" ∧ f2.name ≠ "_" ∧ f3.name ≠ "_" ∧ f4.name ≠ "_" ∧ f5.name ≠ "_") ∧ (f1.type = 9 ∧ f2.type = 3 ∧ f3.type = 3 ∧ f4.type = 3 ∧ f5.type = 9) ∧ f1.offset = 0 ∧ f2.offset = 1 ∧ f3.offset = 2 ∧ f4.offset = 3 ∧ f5.offset = 4 := ⟨_, _, _, _, _, rfl, ⟨by decide, by decide, by decide, by decide, by decide⟩, ⟨rfl, rfl, rfl, rfl, rfl⟩, rfl, rfl, rfl, rfl, rfl⟩
  obtain ⟨f1, f2, f3, f4, f5, e', ⟨n1, n2, n3, n4, n5⟩, ⟨t1, t2, t3, t4, t5⟩, o1, o2, o3, o4, o5⟩ := hf
  rw [e']
  have p1 : ∀ (x : ByteArray) (y z q : Int) (u : ByteArray), (part 9 #[.string x, .int .i64 y, .int .i64 z, .int .i64 q, .string u] 0).run Tryz.prog w = .ok (.string x) w := fun x y z q u => by kernel_rfl
  have p2 : ∀ (x : ByteArray) (y z q : Int) (u : ByteArray), (part 3 #[.string x, .int .i64 y, .int .i64 z, .int .i64 q, .string u] 1).run Tryz.prog w = .ok (.int .i64 y) w := fun x y z q u => by kernel_rfl
  have p3 : ∀ (x : ByteArray) (y z q : Int) (u : ByteArray), (part 3 #[.string x, .int .i64 y, .int .i64 z, .int .i64 q, .string u] 2).run Tryz.prog w = .ok (.int .i64 z) w := fun x y z q u => by kernel_rfl
  have p4 : ∀ (x : ByteArray) (y z q : Int) (u : ByteArray), (part 3 #[.string x, .int .i64 y, .int .i64 z, .int .i64 q, .string u] 3).run Tryz.prog w = .ok (.int .i64 q) w := fun x y z q u => by kernel_rfl
  have p5 : ∀ (x : ByteArray) (y z q : Int) (u : ByteArray), (part 9 #[.string x, .int .i64 y, .int .i64 z, .int .i64 q, .string u] 4).run Tryz.prog w = .ok (.string u) w := fun x y z q u => by kernel_rfl
  simp only [rcEq]
  cases h1 : (a0.toList == b0.toList) <;> cases h2 : (a1 == b1) <;> cases h3 : (a2 == b2) <;> cases h4 : (a3 == b3) <;> cases h5 : (a4.toList == b4.toList) <;>
    simp [Op.eqFields, n1, n2, n3, n4, n5, t1, t2, t3, t4, t5, o1, o2, o3, o4, o5, p1, p2, p3, p4, p5, run_equalIn_int w _ 3 .i64 .i64 _ _ Tryz.underlying3, run_equalIn_string w _ 9 _ _ Tryz.underlying9, h1, h2, h3, h4, h5]
theorem run_neRc (a0 : ByteArray) (a1 a2 a3 : Int) (a4 b0 : ByteArray) (b1 b2 b3 : Int) (b4 : ByteArray) (w : World) : (binOp .neq 28 (.agg #[.string a0, .int .i64 a1, .int .i64 a2, .int .i64 a3, .string a4]) (.agg #[.string b0, .int .i64 b1, .int .i64 b2, .int .i64 b3, .string b4])).run Tryz.prog w = .ok (.bool (!rcEq ⟨a0, a1, a2, a3, a4⟩ ⟨b0, b1, b2, b3, b4⟩)) w := by
  have := run_eqRc ⟨a0, a1, a2, a3, a4⟩ ⟨b0, b1, b2, b3, b4⟩ w
  rw [run_neq_struct, this]; rfl
def sameB : List Rc → List Rc → Bool
  | [], [] => true
  | a :: x, b :: y => rcEq a b && sameB x y
  | _, _ => false
theorem sameB_iff : ∀ x y : List Rc, sameB x y = true ↔ x = y
  | [], [] => by simp [sameB]
  | [], b :: y => by simp [sameB]
  | a :: x, [] => by simp [sameB]
  | a :: x, b :: y => by simp [sameB, rcEq_iff, sameB_iff x y]
theorem sameB_no {x y : List Rc} (h : x ≠ y) : sameB x y = false := by
  cases hs : sameB x y with
  | false => rfl
  | true => exact absurd ((sameB_iff x y).1 hs) h
theorem sameB_yes {x y : List Rc} (h : x = y) : sameB x y = true := (sameB_iff x y).2 h
attribute [local go_sem ↓] run_neRc
set_option maxHeartbeats 4000000 in
theorem same_any {w : World} {v u : Value} {x y : List Rc} (hx : w.ownsRow 0 28 5 v x.length (x.flatMap cRc)) (hy : w.ownsRow 0 28 5 u y.length (y.flatMap cRc)) (hl : x.length ≤ 1000) :
    Calls Tryz.prog 15 #[v, u] w fun e w' => e = .returned (.bool (sameB x y)) ∧ Below w.heap.size w w' := by
  have HX := Lib.hid hx
  have HY := Lib.hid hy
  obtain ⟨a, ca, hv⟩ := row_shape hx
  obtain ⟨b, cb, hu⟩ := row_shape hy
  obtain ⟨n, hn⟩ : ∃ n, x.length = n := ⟨_, rfl⟩
  obtain ⟨m, hm⟩ : ∃ n, y.length = n := ⟨_, rfl⟩
  rw [hn] at hv hl
  rw [hm] at hu
  subst hv
  subst hu
  have HN := Lib.hid hn
  have HM := Lib.hid hm
  clear hx hy hn hm
  by_cases hnm : n = m
  · subst hnm
    go_enter Tryz.func15, Tryz.ntmps15
    go_wp2
    go_loopw [5] (fun iv wr => ∃ k : Nat, k ≤ n ∧ iv = .int .i64 k ∧ x.take k = y.take k ∧ Below w.heap.size w wr) (fun iv _ => n - (intOf iv).toNat)
    case atStart => exact ⟨0, Nat.zero_le _, rfl, rfl, Below.refl _ _⟩
    case round =>
      obtain ⟨k, hk, rfl, htk, hb⟩ := hrel
      have HT := Lib.hid htk
      have HB := Lib.hid hb
      clear htk hb
      by_cases hlt : k < n
      · have hkx : k < x.length := by have := HN.out; omega
        have hky : k < y.length := by have := HM.out; omega
        have hx := HX.out
        have hy := HY.out
        rw [HN.out] at hx
        rw [HM.out] at hy
        obtain ⟨g1, rfl⟩ := row_some hx (by omega)
        obtain ⟨g2, rfl⟩ := row_some hy (by omega)
        have xc : ∀ q s, q < 5 → (cRc x[k])[q]? = some s → wr.cell? ⟨g1, k * 5 + q, none⟩ = some s := fun q s hq hs => keep HB.out ((row_cells hx).1 _ _ (by rw [flat_getR cRc 5 (fun _ => rfl) x k hkx q hq]; exact hs))
        have yc : ∀ q s, q < 5 → (cRc y[k])[q]? = some s → wr.cell? ⟨g2, k * 5 + q, none⟩ = some s := fun q s hq hs => keep HB.out ((row_cells hy).1 _ _ (by rw [flat_getR cRc 5 (fun _ => rfl) y k hky q hq]; exact hs))
        have HNX := Lib.hid (show rcEq x[k] y[k] = true → x.take (k + 1) = y.take (k + 1) from fun h => by
          rw [List.take_succ_eq_append_getElem hkx, List.take_succ_eq_append_getElem hky, HT.out, (rcEq_iff _ _).1 h])
        have HNO := Lib.hid (show rcEq x[k] y[k] = false → x ≠ y from fun h e => by
          subst e
          rw [(rcEq_iff x[k] x[k]).2 rfl] at h; cases h)
        clear hx hy
        generalize x[k] = p at *
        generalize y[k] = q at *
        obtain ⟨p0, p1, p2, p3, p4⟩ := p
        obtain ⟨q0, q1, q2, q3, q4⟩ := q
        have d0 := cell_regrown (show wr.cell? ⟨g1, k * 5, none⟩ = some (.string p0) from xc 0 _ (by decide) rfl)
        have d1 := cell_regrown (show wr.cell? ⟨g1, k * 5 + 1, none⟩ = some (.int .i64 p1) from xc 1 _ (by decide) rfl)
        have d2 := cell_regrown (show wr.cell? ⟨g1, k * 5 + 2, none⟩ = some (.int .i64 p2) from xc 2 _ (by decide) rfl)
        have d3 := cell_regrown (show wr.cell? ⟨g1, k * 5 + 3, none⟩ = some (.int .i64 p3) from xc 3 _ (by decide) rfl)
        have d4 := cell_regrown (show wr.cell? ⟨g1, k * 5 + 4, none⟩ = some (.string p4) from xc 4 _ (by decide) rfl)
        have f0 := cell_regrown (show wr.cell? ⟨g2, k * 5, none⟩ = some (.string q0) from yc 0 _ (by decide) rfl)
        have f1 := cell_regrown (show wr.cell? ⟨g2, k * 5 + 1, none⟩ = some (.int .i64 q1) from yc 1 _ (by decide) rfl)
        have f2 := cell_regrown (show wr.cell? ⟨g2, k * 5 + 2, none⟩ = some (.int .i64 q2) from yc 2 _ (by decide) rfl)
        have f3 := cell_regrown (show wr.cell? ⟨g2, k * 5 + 3, none⟩ = some (.int .i64 q3) from yc 3 _ (by decide) rfl)
        have f4 := cell_regrown (show wr.cell? ⟨g2, k * 5 + 4, none⟩ = some (.string q4) from yc 4 _ (by decide) rfl)
        clear xc yc hkx hky
        obtain ⟨r, hr⟩ : ∃ r, rcEq ⟨p0, p1, p2, p3, p4⟩ ⟨q0, q1, q2, q3, q4⟩ = r := ⟨_, rfl⟩
        rw [hr] at HNX HNO
        go_wp2
        refine wp_region_B (by kernel_rfl) (by kernel_rfl) ?_
        repeat (go_big_quiet_step (fail))
        refine wpQuiet_nil ?_
        intro w5 hbw
        replace HB := Lib.hid (below_mid HB.out hbw)
        clear hbw d0 d1 d2 d3 d4 f0 f1 f2 f3 f4 hr
        cases r with
        | false =>
          have HSB := Lib.hid (sameB_no (HNO.out rfl))
          clear HNX HNO
          go_wp2
          go_ret
          exact ⟨by rw [HSB.out]; rfl, HB.out⟩
        | true =>
          go_wp2
          go_roundw
          case rel => exact ⟨k + 1, by omega, by go_num, HNX.out rfl, HB.out⟩
          case measure => simp [intOf]; omega
      · obtain rfl : k = n := by omega
        have HSB := Lib.hid (sameB_yes (x := x) (y := y) (by
          have h1 := HT.out
          rwa [List.take_of_length_le (by have := HN.out; omega), List.take_of_length_le (by have := HM.out; omega)] at h1))
        go_wp2
        go_ret
        exact ⟨by rw [HSB.out]; rfl, HB.out⟩
  · have HSB := Lib.hid (sameB_no (x := x) (y := y) (fun e => hnm (by rw [← HN.out, ← HM.out, e])))
    have e1 : ((n : Int) != (m : Int)) = true := by simp; omega
    have e2 : ((n : Int) == (m : Int)) = false := by simp; omega
    clear hnm
    go_enter Tryz.func15, Tryz.ntmps15
    go_wp2
    go_ret
    exact ⟨by rw [HSB.out]; rfl, Below.refl _ _⟩

end Go.Proofs.YtapeljiopbkjlaaGreatDoor
