/- PortsConnectedPeerOnly: the plain law, pairs, and the contract of at. -/
import Derived.ChangeKeysEq
import Derived.Test.YtfipamdknanlmaaPraP
import Derived.Test.YtfipamdknanlmaaPrf1
import Derived.Test.YtfipamdknanlmaaOpn23
namespace Go.Proofs.Ytfipamdknanlmaa
open Go.RowKit Go.Sort
set_option linter.unusedVariables false

/-- The place of the first x in l, or -1. -/
def atF (l : List (Int × Int)) (x : Int × Int) : Int := match l.findIdx? (· == x) with
  | some i => i
  | none => -1
def cPr (x : Int × Int) : List Value := [.int .i64 x.1, .int .i64 x.2]
abbrev prV (x : Int × Int) : Value := .agg #[.int .i64 x.1, .int .i64 x.2]
theorem run_eqP (a b c d : Int) (w : World) : (binOp .eql 49 (.agg #[.int .i64 a, .int .i64 b]) (.agg #[.int .i64 c, .int .i64 d])).run Try.prog w = .ok (.bool ((a == c) && (b == d))) w := by
  have hi : ∃ i, Try.prog.info? 3 = some i := ⟨_, rfl⟩
  obtain ⟨i, hi⟩ := hi
  rw [run_eql_struct, run_equalIn_array w 9999 _ _ Try.underlying49 hi, cellsI]
  have p1 : ∀ x y : Int, (part 3 #[.int .i64 x, .int .i64 y] (0 * 1)).run Try.prog w = .ok (.int .i64 x) w := fun x y => by kernel_rfl
  have p2 : ∀ x y : Int, (part 3 #[.int .i64 x, .int .i64 y] (1 * 1)).run Try.prog w = .ok (.int .i64 y) w := fun x y => by kernel_rfl
  have hr : List.range 2 = [0, 1] := by decide
  rw [hr]
  cases h1 : (a == c) <;> cases h2 : (b == d) <;> simp [Op.eqItems, p1, p2, run_equalIn_int w _ 3 .i64 .i64 _ _ Try.underlying3, h1, h2]
theorem find_ix {α : Type} [BEq α] {l : List α} {x : α} {k : Nat} (hk : k < l.length) (h : (l.take k).any (· == x) = false) (h2 : (l[k] == x) = true) : l.findIdx? (· == x) = some k := by
  rw [List.findIdx?_eq_some_iff_getElem]
  refine ⟨hk, h2, fun j hj => ?_⟩
  have : (l.take k).any (· == x) = false := h
  rw [List.any_eq_false] at this
  have := this l[j] (List.mem_take_iff_getElem.2 ⟨j, by omega, rfl⟩)
  simpa using this
theorem find_ix_none {α : Type} [BEq α] {l : List α} {x : α} (h : l.any (· == x) = false) : l.findIdx? (· == x) = none := by
  rw [List.findIdx?_eq_none_iff]
  intro y hy
  rw [List.any_eq_false] at h
  simpa using h y hy
theorem beq_pair (a b c d : Int) : (((a, b) : Int × Int) == (c, d)) = ((a == c) && (b == d)) := rfl

/-- What the connections of the port n look like after the peers of hv have been tried. -/
structure CP (n : Int) (hv : List (Int × Int)) (J : List (Ck × Int)) : Prop where
  look : ∀ a b : Int, (a, b) ≠ (-1, -1) → Proofs.Ytfipamdknanlmaa.look ⟨n, a, b⟩ J = (hv.findIdx? (· == (a, b))).map fun i : Nat => (i : Int)
  held : ∀ x ∈ J, x.2 < hv.length
  low : ∀ x ∈ hv, x.1 ≤ 65535
theorem CP.nil (n : Int) : CP n [] [] := ⟨fun a b _ => rfl, (fun x h => by cases h), (fun x h => by cases h)⟩
theorem findIdx_app {hv : List (Int × Int)} {x y : Int × Int} : (hv ++ [y]).findIdx? (· == x) = (hv.findIdx? (· == x)).or (if y == x then some hv.length else none) := by
  rw [List.findIdx?_append]
  congr 1
  simp [List.findIdx?_cons]
theorem CP.skip {n : Int} {hv : List (Int × Int)} {J : List (Ck × Int)} (h : CP n hv J) : CP n (hv ++ [(-1, -1)]) J := by
  refine ⟨fun a b hab => ?_, fun x hx => by have := h.held x hx; simp; omega, fun x hx => ?_⟩
  · rw [h.look a b hab, findIdx_app, if_neg (show ¬ (((-1, -1) : Int × Int) == (a, b)) = true from fun e => hab (eq_of_beq e).symm)]
    cases hv.findIdx? (· == (a, b)) <;> rfl
  · rcases List.mem_append.1 hx with hx | hx
    · exact h.low x hx
    · simp only [List.mem_singleton] at hx; subst hx; decide
theorem CP.add {n : Int} {hv : List (Int × Int)} {J : List (Ck × Int)} (h : CP n hv J) {a b : Int} (hab : (a, b) ≠ (-1, -1)) (ha : a ≤ 65535) (hnew : hv.findIdx? (· == (a, b)) = none) : CP n (hv ++ [(a, b)]) (J ++ [(⟨n, a, b⟩, (hv.length : Int))]) := by
  refine ⟨fun c d hcd => ?_, fun x hx => ?_, fun x hx => ?_⟩
  · rw [look_app, h.look c d hcd, findIdx_app]
    by_cases e : (a, b) = (c, d)
    · cases e
      rw [hnew, if_pos rfl, if_pos (by simp)]; rfl
    · have e2 : ¬ (⟨n, c, d⟩ : Ck) = ⟨n, a, b⟩ := fun h => e (by cases h; rfl)
      rw [if_neg e2, if_neg (by simpa using e)]
      cases hv.findIdx? (· == (c, d)) <;> rfl
  · rcases List.mem_append.1 hx with hx | hx
    · have := h.held x hx; simp; omega
    · simp only [List.mem_singleton] at hx; subst hx; simp; omega
  · rcases List.mem_append.1 hx with hx | hx
    · exact h.low x hx
    · simp only [List.mem_singleton] at hx; subst hx; exact ha
theorem atF_some {hv : List (Int × Int)} {x : Int × Int} {i : Nat} (h : hv.findIdx? (· == x) = some i) : atF hv x = i := by unfold atF; rw [h]
theorem atF_none {hv : List (Int × Int)} {x : Int × Int} (h : hv.findIdx? (· == x) = none) : atF hv x = -1 := by unfold atF; rw [h]
theorem cp_step {n : Int} {B : List (Bk × Int)} {hv : List (Int × Int)} {J : List (Ck × Int)} (h : CP n hv J) (hn : vpo n = true) {a b : Int} (ha : 0 ≤ a ∧ a ≤ 65535) (hb : 1 ≤ b ∧ b ≤ 65535) :
    (0 ≤ atF hv (a, b) ∧ connE ⟨0, 0, B, J⟩ hv.length n a b = 231 ∧ connS ⟨0, 0, B, J⟩ hv.length n a b = ⟨0, 0, B, J⟩ ∧ CP n (hv ++ [(-1, -1)]) J) ∨
    (atF hv (a, b) = -1 ∧ connE ⟨0, 0, B, J⟩ hv.length n a b = 0 ∧ connS ⟨0, 0, B, J⟩ hv.length n a b = ⟨0, 0, B, J ++ [(⟨n, a, b⟩, (hv.length : Int))]⟩ ∧ CP n (hv ++ [(a, b)]) (J ++ [(⟨n, a, b⟩, (hv.length : Int))])) := by
  have hab : (a, b) ≠ ((-1, -1) : Int × Int) := fun e => by cases e; omega
  have hv1 : (vpo n && vpo b && vad a) = true := by
    rw [hn]; simp [vpo, vad]; omega
  have hl := h.look a b hab
  cases hf : hv.findIdx? (· == (a, b)) with
  | some i =>
    rw [hf] at hl
    have e : connE ⟨0, 0, B, J⟩ hv.length n a b = 231 := by unfold connE; rw [if_pos hv1]; simp [hl]
    exact .inl ⟨by rw [atF_some hf]; omega, e, by unfold connS; rw [e, if_neg (by decide)], h.skip⟩
  | none =>
    rw [hf] at hl
    have e : connE ⟨0, 0, B, J⟩ hv.length n a b = 0 := by unfold connE; rw [if_pos hv1]; simp [hl]
    exact .inr ⟨atF_none hf, e, by unfold connS; rw [e, if_pos rfl]; rfl, h.add hab ha.2 hf⟩
theorem cp_held {n : Int} {hv : List (Int × Int)} {J : List (Ck × Int)} (h : CP n hv J) (hl : hv.length ≤ 16) : heldOf J 500 = [] := by
  unfold heldOf
  rw [List.map_eq_nil_iff, List.filter_eq_nil_iff]
  intro x hx
  have := h.held x hx
  simp; omega
/-- What Lookup finds before the bound socket is connected, and behind it. -/
theorem cp_end {n : Int} {hv : List (Int × Int)} {J : List (Ck × Int)} (h : CP n hv J) (hl : hv.length ≤ 16) (hn : vpo n = true) {a b : Int} (ha : 0 ≤ a ∧ a ≤ 65535) (hb : 1 ≤ b ∧ b ≤ 65535) :
    connE ⟨0, 0, [(⟨6, n⟩, 500)], J⟩ 500 n 70000 1 = 0 ∧ connS ⟨0, 0, [(⟨6, n⟩, 500)], J⟩ 500 n 70000 1 = ⟨0, 0, [(⟨6, n⟩, 500)], J ++ [(⟨n, 70000, 1⟩, 500)]⟩ ∧ lookF ⟨0, 0, [(⟨6, n⟩, 500)], J⟩ 17 n a b = (0, false) ∧
    ((0 ≤ atF hv (a, b) ∧ lookF ⟨0, 0, [(⟨6, n⟩, 500)], J⟩ 6 n a b = (atF hv (a, b), true) ∧ lookF ⟨0, 0, [(⟨6, n⟩, 500)], J ++ [(⟨n, 70000, 1⟩, 500)]⟩ 6 n a b = (atF hv (a, b), true)) ∨
     (atF hv (a, b) = -1 ∧ lookF ⟨0, 0, [(⟨6, n⟩, 500)], J⟩ 6 n a b = (500, true) ∧ lookF ⟨0, 0, [(⟨6, n⟩, 500)], J ++ [(⟨n, 70000, 1⟩, 500)]⟩ 6 n a b = (0, false))) := by
  have hab : (a, b) ≠ ((-1, -1) : Int × Int) := fun e => by cases e; omega
  have h7 : look ⟨n, 70000, 1⟩ J = none := by
    rw [h.look 70000 1 (by decide)]
    rw [Option.map_eq_none_iff, List.findIdx?_eq_none_iff]
    intro x hx
    have := h.low x hx
    simp only [beq_eq_false_iff_ne, ne_eq]
    rintro rfl
    simp at this
  have e0 : connE ⟨0, 0, [(⟨6, n⟩, 500)], J⟩ 500 n 70000 1 = 0 := by
    unfold connE; rw [if_pos (by rw [hn]; decide)]; simp [h7]
  have hh := cp_held h hl
  have hh2 : heldOf (J ++ [((⟨n, 70000, 1⟩ : Ck), (500 : Int))]) 500 ≠ [] := by rw [held_app]; simp
  have hne : ¬ (⟨n, a, b⟩ : Ck) = ⟨n, 70000, 1⟩ := fun e => by cases e; omega
  have hB6 : look ⟨6, n⟩ [((⟨6, n⟩ : Bk), (500 : Int))] = some 500 := by simp [look]
  have hB17 : look ⟨17, n⟩ [((⟨6, n⟩ : Bk), (500 : Int))] = none := by simp [look]
  have hlk := h.look a b hab
  refine ⟨e0, by unfold connS; rw [e0, if_pos rfl]; rfl, by unfold lookF; simp only [if_neg (show ¬ (17 : Int) = 6 by decide), hB17], ?_⟩
  cases hf : hv.findIdx? (· == (a, b)) with
  | some i =>
    rw [hf] at hlk
    refine .inl ⟨by rw [atF_some hf]; omega, ?_, ?_⟩
    · rw [atF_some hf]; unfold lookF; simp only [if_true, hlk, Option.map_some]
    · rw [atF_some hf]; unfold lookF; simp only [if_true, look_app, hlk, Option.map_some, Option.some_or]
  | none =>
    rw [hf] at hlk
    refine .inr ⟨atF_none hf, ?_, ?_⟩
    · unfold lookF; simp only [if_true, hlk, Option.map_none, hB6, hh]
    · unfold lookF; simp only [if_true, look_app, hlk, Option.map_none, hB6, if_neg hne, Option.or_none, if_neg hh2]

set_option maxHeartbeats 1000000 in
theorem at_any {w : World} {v : Value} {l : List (Int × Int)} {n : Nat} (hl : l.length = n) (x : Int × Int) (hr : w.ownsRow 0 49 2 v n (l.flatMap cPr)) (hn : n ≤ 1000) :
    Calls Try.prog 21 #[v, prV x] w fun e w' => e = .returned (.int .i64 (atF l x)) ∧ Below w.heap.size w w' := by
  obtain ⟨a, cap, rfl, hcell⟩ := row_at (c := cPr) (fun x => rfl) hr hl
  obtain ⟨x0, x1⟩ := x
  have hb := below_one w (.cells #[.int .i64 x0, .int .i64 x1] 49)
  obtain ⟨W, hW⟩ : ∃ y, w.alloc (.cells #[.int .i64 x0, .int .i64 x1] 49) = y := ⟨_, rfl⟩
  have HX := Lib.hid (new2 w (.int .i64 x0) (.int .i64 x1) 49)
  rw [hW] at hb HX
  obtain ⟨bx, hbx⟩ : ∃ y, w.heap.size = y := ⟨_, rfl⟩
  have HC := Lib.hid hcell
  have HB := Lib.hid hb
  rw [hbx] at HX HB
  have HBX := Lib.hid hbx
  have hq := fun (a b c d : Int) (w : World) => run_eqP a b c d w
  clear hcell hr hb
  go_enter Try.func21, Try.ntmps21
  go_wp2
  clear hW hbx
  go_loopw [5] (fun i wr => ∃ k : Nat, k ≤ n ∧ i = .int .i64 k ∧ (l.take k).any (· == (x0, x1)) = false ∧ Below W.heap.size W wr) (fun i _ => n - (intOf i).toNat)
  case atStart => exact ⟨0, Nat.zero_le _, rfl, rfl, Below.refl _ _⟩
  case round =>
    obtain ⟨k, hk, rfl, hnone, hbw⟩ := hrel
    have HN := Lib.hid hnone
    have HBW := Lib.hid hbw
    clear hnone hbw
    by_cases hlt : k < n
    · obtain ⟨g, rfl, hcc⟩ := HC.out (by omega)
      have hkl : k < l.length := by omega
      have hk0 := hcc k hkl 0 (by decide)
      have hk1 := hcc k hkl 1 (by decide)
      obtain ⟨y0, hy0⟩ : ∃ y, l[k].1 = y := ⟨_, rfl⟩
      obtain ⟨y1, hy1⟩ : ∃ y, l[k].2 = y := ⟨_, rfl⟩
      have HT := Lib.hid (any_take (p := fun y : Int × Int => y == (x0, x1)) hkl HN.out)
      have HY := Lib.hid (find_ix (x := (x0, x1)) hkl HN.out)
      have hpe : l[k] = (y0, y1) := by rw [← hy0, ← hy1]
      rw [hpe, beq_pair] at HT HY
      have d0 := cell_regrown (show wr.cell? ⟨g, k * 2, none⟩ = some (.int .i64 y0) from keep HBW.out (keep (HBX.out ▸ HB.out) (by rw [← hy0]; exact hk0)))
      have d1 := cell_regrown (show wr.cell? ⟨g, k * 2 + 1, none⟩ = some (.int .i64 y1) from keep HBW.out (keep (HBX.out ▸ HB.out) (by rw [← hy1]; exact hk1)))
      have e0 := cell_regrown (show wr.cell? ⟨bx, 0, none⟩ = some (.int .i64 x0) from keep HBW.out (blk_cell HX.out 0))
      have e1 := cell_regrown (show wr.cell? ⟨bx, 1, none⟩ = some (.int .i64 x1) from keep HBW.out (blk_cell HX.out 1))
      clear hcc hk0 hk1 hy0 hy1 hpe hkl
      go_wp2
      refine wp_region_R 6 (by kernel_rfl) (by kernel_rfl) ?_
      simp only [List.take, List.drop]
      iterate 6 (first | (refine wpR_want (by kernel_rfl) rfl rfl ?_; intro K hK; go_big_quiet_op; go_big_quiet_on) | (refine wpR_is (by kernel_rfl) rfl _ (fun w _ => rfl) ?_; simp only [Act.put, List.setIfInBounds_toArray, List.set_cons_succ, List.set_cons_zero]))
      refine wpR_nil (by kernel_rfl) (by simp) ?_
      rintro w5 hb5
      simp only [exAll, List.drop]
      clear d0 d1 e0 e1
      replace HBW := Lib.hid (below_mid HBW.out hb5)
      clear hb5
      cases he : (y0 == x0 && y1 == x1) with
      | true =>
        have HR := Lib.hid (atF_some (HY.out he))
        clear HT HY HN
        go_wp2
        go_ret
        exact ⟨by rw [HR.out]; rfl, below_mid (HBX.out ▸ HB.out) HBW.out⟩
      | false =>
        rw [he] at HT
        go_wp2
        go_roundw
        case rel => exact ⟨k + 1, by omega, by go_num, HT.out, HBW.out⟩
        case measure => simp [intOf]; omega
    · obtain rfl : k = n := by omega
      have HR := Lib.hid (atF_none (hv := l) (x := (x0, x1)) (find_ix_none (by rw [← HN.out, ← hl, List.take_length])))
      clear HN
      go_wp2
      go_ret
      exact ⟨by rw [HR.out]; rfl, below_mid (HBX.out ▸ HB.out) HBW.out⟩

end Go.Proofs.Ytfipamdknanlmaa
