/- Contracts of the reference functions of layer 12, second part: Contains, Count, Remove. -/
import Derived.Test.YthkkhgfdppbphaaRfA
namespace Go.Proofs.Ythkkhgfdppbphaa
open Go.RowKit Go.Sort Go.Shelf
set_option linter.unusedVariables false
attribute [local go_sem] Oper.semAt_some
attribute [local go_sem ↓] run_mn run_mx

theorem tak_no {l : List Sp} {s : Sp} (h : takB l s = false) : canF (-1) l = false ∨ (canF (-1) l = true ∧ okS (-1) s = false) := by
  cases hc : canF (-1) l
  · exact .inl rfl
  · exact .inr ⟨rfl, by simpa [takB, hc] using h⟩
theorem tak_yes {l : List Sp} {s : Sp} (h : takB l s = true) : canF (-1) l = true ∧ okS (-1) s = true := by simpa [takB] using h

set_option maxHeartbeats 2000000 in
theorem rcontains_any (l : List Sp) (s : Sp) (v : Value) (w : World) (h : RdS w v l) :
    Calls Try.prog 22 #[v, spV s] w fun e w' => e = .returned (.bool (conF l s)) ∧ Below w.heap.size w w' := by
  have hR := h
  obtain ⟨a, cap, rfl, hcap, hlen, hp⟩ := h
  have HP := Lib.hid hp
  clear hp
  obtain ⟨fr, tt⟩ := s
  obtain ⟨d0, d1⟩ := box1 w fr tt 24
  have hb0 : Below w.heap.size w (w.alloc (.cells #[.int .i64 fr, .int .i64 tt] 24)) := (Below.refl _ _).alloc (Nat.le_refl _) _
  have D0 := Lib.hid d0
  have D1 := Lib.hid d1
  clear d0 d1
  cases hc : takB l ⟨fr, tt⟩
  case false =>
    have HR := Lib.hid (show conF l ⟨fr, tt⟩ = false by simp [conF, hc])
    rcases tak_no hc with hv | ⟨hv, ho⟩
    · go_enter Try.func22, Try.ntmps22
      go_wp2_with fail
      refine (rvalid_r hv _ _ (hR.stay hb0)).mono ?_
      rintro e w1 ⟨rfl, hb⟩
      replace hb0 := below_mid hb0 hb
      go_wp2
      go_ret
      exact ⟨by rw [HR.out]; rfl, hb0⟩
    · go_enter Try.func22, Try.ntmps22
      go_wp2_with fail
      refine (rvalid_r hv _ _ (hR.stay hb0)).mono ?_
      rintro e w1 ⟨rfl, hb⟩
      have c0 := keep hb D0.out
      have c1 := keep hb D1.out
      replace hb0 := below_mid hb0 hb
      clear hb D0 D1
      go_wp2_with fail
      refine (rone_r ho _).mono ?_
      rintro e w2 ⟨rfl, hb⟩
      replace hb0 := below_mid hb0 hb
      go_wp2
      go_ret
      exact ⟨by rw [HR.out]; rfl, hb0⟩
  case true =>
    have HR := Lib.hid (show conF l ⟨fr, tt⟩ = conL l ⟨fr, tt⟩ by simp [conF, hc])
    obtain ⟨hv, ho⟩ := tak_yes hc
    go_enter Try.func22, Try.ntmps22
    go_wp2_with fail
    refine (rvalid_r hv _ _ (hR.stay hb0)).mono ?_
    rintro e w1 ⟨rfl, hb⟩
    have c0 := keep hb D0.out
    have c1 := keep hb D1.out
    replace hb0 := below_mid hb0 hb
    clear hb D0 D1
    go_wp2_with fail
    refine (rone_r ho _).mono ?_
    rintro e w2 ⟨rfl, hb⟩
    replace hb0 := below_mid hb0 hb
    replace c0 := keep hb c0
    replace c1 := keep hb c1
    have C0 := Lib.hid c0
    have C1 := Lib.hid c1
    clear hb c0 c1
    go_wp2
    go_loopw [5] (fun i wr => ∃ k : Nat, k ≤ l.length ∧ i = .int .i64 k ∧ conL (l.take k) ⟨fr, tt⟩ = false ∧ Below w2.heap.size w2 wr) (fun i _ => l.length - (intOf i).toNat)
    case atStart => exact ⟨0, Nat.zero_le _, rfl, by simp [conL], Below.refl _ _⟩
    case round =>
      obtain ⟨k, hk, rfl, hno, hb⟩ := hrel
      by_cases hlt : k < l.length
      · obtain ⟨b, o, rfl, hcc⟩ := HP.out (by omega)
        obtain ⟨x0, x1⟩ := ((hcc k hlt).stay hb0).stay hb
        have c0 := keep hb C0.out
        have c1 := keep hb C1.out
        have HS := Lib.hid (con_take l ⟨fr, tt⟩ k hlt)
        have HY := Lib.hid (con_some l ⟨fr, tt⟩ k hlt)
        have HN := Lib.hid hno
        have hkc : k ≤ cap := by omega
        clear hcc hno
        generalize spAt l k = x at *
        obtain ⟨xf, xt⟩ := x
        by_cases hh1 : xf ≤ fr
        · by_cases hh2 : tt ≤ xt
          · have HT := Lib.hid (HY.out (by simp [holdB, hh1, hh2]))
            go_wp2
            have k0 := cell_regrown c0
            have k1 := cell_regrown c1
            have k2 := cell_regrown x0
            have k3 := cell_regrown x1
            refine wp_region_B (by kernel_rfl) (by kernel_rfl) ?_
            repeat (go_big_quiet_step (fail))
            refine wpQuiet_nil ?_
            intro w3 hb3
            clear k0 k1 k2 k3
            replace hb := below_mid hb hb3
            go_wp2
            go_ret
            exact ⟨by rw [HR.out, HT.out]; rfl, below_mid hb0 hb⟩
          · have HT := Lib.hid (show conL (l.take (k + 1)) ⟨fr, tt⟩ = false by rw [HS.out, HN.out]; simp [holdB, hh2])
            go_wp2
            have k0 := cell_regrown c0
            have k1 := cell_regrown c1
            have k2 := cell_regrown x0
            have k3 := cell_regrown x1
            refine wp_region_B (by kernel_rfl) (by kernel_rfl) ?_
            repeat (go_big_quiet_step (fail))
            refine wpQuiet_nil ?_
            intro w3 hb3
            clear k0 k1 k2 k3
            replace hb := below_mid hb hb3
            go_wp2
            go_roundw
            case rel => exact ⟨k + 1, by omega, by go_num, HT.out, hb⟩
            case measure => simp [intOf]; omega
        · have HT := Lib.hid (show conL (l.take (k + 1)) ⟨fr, tt⟩ = false by rw [HS.out, HN.out]; simp [holdB, hh1])
          have hd1 : decide (xf ≤ fr) = false := decide_eq_false hh1
          go_wp2
          have k0 := cell_regrown c0
          have k1 := cell_regrown c1
          have k2 := cell_regrown x0
          have k3 := cell_regrown x1
          refine wp_region_B (by kernel_rfl) (by kernel_rfl) ?_
          repeat (go_big_quiet_step (fail))
          refine wpQuiet_nil ?_
          intro w3 hb3
          clear k0 k1 k2 k3
          replace hb := below_mid hb hb3
          go_wp2
          go_roundw
          case rel => exact ⟨k + 1, by omega, by go_num, HT.out, hb⟩
          case measure => simp [intOf]; omega
      · have HT := Lib.hid (show conL l ⟨fr, tt⟩ = false by rw [← hno, List.take_of_length_le (by omega)])
        clear hno
        go_wp2
        go_ret
        exact ⟨by rw [HR.out, HT.out]; rfl, below_mid hb0 hb⟩

theorem rcon_r {l : List Sp} {s : Sp} {r : Bool} (hr : conF l s = r) (v : Value) (w : World) (h : RdS w v l) :
    Calls Try.prog 22 #[v, spV s] w fun e w' => e = .returned (.bool r) ∧ Below w.heap.size w w' := hr ▸ rcontains_any l s v w h

set_option maxHeartbeats 2000000 in
theorem rcount_any (l : List Sp) (v : Value) (w : World) (h : RdS w v l) :
    Calls Try.prog 26 #[v] w fun e w' => e = .returned (.int .i64 (cntF l)) ∧ Below w.heap.size w w' := by
  have hR := h
  obtain ⟨a, cap, rfl, hcap, hlen, hp⟩ := h
  have HP := Lib.hid hp
  clear hp
  cases hc : canF (-1) l
  case false =>
    have HR := Lib.hid (show cntF l = 0 by simp [cntF, hc])
    have hl0 : 0 < l.length := by
      cases l with
      | nil => cases hc
      | cons x l => simp
    go_enter Try.func26, Try.ntmps26
    go_wp2
    go_loopw [3, 4] (fun n i wr => n = .int .i64 0 ∧ i = .int .i64 0 ∧ Below w.heap.size w wr) (fun _ i _ => 0)
    case atStart => exact ⟨rfl, rfl, Below.refl _ _⟩
    case round =>
      obtain ⟨rfl, rfl, hb⟩ := hrel
      go_wp2_with fail
      refine (rvalid_r hc _ _ (hR.stay hb)).mono ?_
      rintro e w1 ⟨rfl, hb1⟩
      replace hb := below_mid hb hb1
      go_wp2
      go_ret
      exact ⟨by rw [HR.out]; rfl, hb⟩
  case true =>
    have HR := Lib.hid (show cntF l = cntL l by simp [cntF, hc])
    have HB := Lib.hid (fun k => cnt_bd (can_take k hc) (by omega))
    have HA := Lib.hid (can_all hc)
    go_enter Try.func26, Try.ntmps26
    go_wp2
    go_loopw [3, 4] (fun n i wr => ∃ k : Nat, k ≤ l.length ∧ i = .int .i64 k ∧ n = .int .i64 (cntL (l.take k)) ∧ Below w.heap.size w wr) (fun _ i _ => l.length - (intOf i).toNat)
    case atStart => exact ⟨0, Nat.zero_le _, rfl, rfl, Below.refl _ _⟩
    case round =>
      obtain ⟨k, hk, rfl, rfl, hb⟩ := hrel
      by_cases hlt : k < l.length
      · obtain ⟨b, o, rfl, hcc⟩ := HP.out (by omega)
        go_wp2_with fail
        refine (rvalid_r hc _ _ (hR.stay hb)).mono ?_
        rintro e w1 ⟨rfl, hb1⟩
        replace hb := below_mid hb hb1
        clear hb1
        obtain ⟨x0, x1⟩ := (hcc k hlt).stay hb
        have HS := Lib.hid (cnt_take l k hlt)
        have hB := HB.out k
        have hx := HA.out (spAt l k) (by rw [spAt_eq l k hlt]; exact List.getElem_mem _)
        have hkc : k ≤ cap := by omega
        clear hcc
        generalize spAt l k = x at *
        obtain ⟨xf, xt⟩ := x
        simp only at hx x0 x1
        generalize cntL (l.take k) = cn at *
        obtain ⟨hx1, hx2, hx3, hx4⟩ := hx
        obtain ⟨hB1, hB2⟩ := hB
        go_wp2
        have k2 := cell_regrown x0
        have k3 := cell_regrown x1
        refine wp_region_B (by kernel_rfl) (by kernel_rfl) ?_
        repeat (go_big_quiet_step (fail))
        refine wpQuiet_nil ?_
        intro w3 hb3
        clear k2 k3
        replace hb := below_mid hb hb3
        go_wp2
        go_roundw
        case rel => exact ⟨k + 1, by omega, by go_num, by rw [HS.out]; congr 1; omega, hb⟩
        case measure => simp [intOf]; omega
      · have HT := Lib.hid (show l.take k = l from List.take_of_length_le (by omega))
        go_wp2
        go_ret
        exact ⟨by rw [HR.out, HT.out]; rfl, hb⟩

end Go.Proofs.Ythkkhgfdppbphaa
