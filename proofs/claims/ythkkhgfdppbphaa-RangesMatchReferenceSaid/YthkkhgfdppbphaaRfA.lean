/- Contracts of the reference functions of layer 12, first part: One, Valid, Same. -/
import Derived.Test.YthkkhgfdppbphaaSam
namespace Go.Proofs.Ythkkhgfdppbphaa
open Go.RowKit Go.Sort Go.Shelf
set_option linter.unusedVariables false
attribute [local go_sem] Oper.semAt_some
attribute [local go_sem ↓] run_neS

theorem rone_any (x : Sp) (w : World) :
    Calls Try.prog 31 #[spV x] w fun r w' => r = .returned (.bool (okS (-1) x)) ∧ Below w.heap.size w w' := by
  obtain ⟨fr, tt⟩ := x
  have hb0 : Below w.heap.size w (w.alloc (.cells #[.int .i64 fr, .int .i64 tt] 24)) := (Below.refl _ _).alloc (Nat.le_refl _) _
  by_cases h1 : fr ≥ 0
  · by_cases h3 : fr < tt
    · by_cases h4 : tt ≤ 1099511627776
      · have HR := Lib.hid (show okS (-1) ⟨fr, tt⟩ = true from okS_iff.2 ⟨h1, by simp only; omega, h3, h4⟩)
        go_enter Try.func31, Try.ntmps31
        go_wp2
        go_ret
        exact ⟨by rw [HR.out]; rfl, hb0⟩
      · have HR := Lib.hid (show okS (-1) ⟨fr, tt⟩ = false by simp [okS]; omega)
        go_enter Try.func31, Try.ntmps31
        go_wp2
        go_ret
        exact ⟨by rw [HR.out]; rfl, hb0⟩
    · have HR := Lib.hid (show okS (-1) ⟨fr, tt⟩ = false by simp [okS]; omega)
      go_enter Try.func31, Try.ntmps31
      go_wp2
      go_ret
      exact ⟨by rw [HR.out]; rfl, hb0⟩
  · have HR := Lib.hid (show okS (-1) ⟨fr, tt⟩ = false by simp [okS]; omega)
    go_enter Try.func31, Try.ntmps31
    go_wp2
    go_ret
    exact ⟨by rw [HR.out]; rfl, hb0⟩
theorem rone_r {x : Sp} {r : Bool} (h : okS (-1) x = r) (w : World) :
    Calls Try.prog 31 #[spV x] w fun e w' => e = .returned (.bool r) ∧ Below w.heap.size w w' := h ▸ rone_any x w

theorem okS_one {e : Int} {x : Sp} (h : okS (-1) x = false) : okS e x = false := by
  cases ho : okS e x
  · rfl
  · have := okS_iff.1 ho
    rw [← h]; exact (okS_iff.2 ⟨by omega, by omega, by omega, by omega⟩).symm
theorem okS_two {e : Int} {x : Sp} (h : okS (-1) x = true) : okS e x = decide (e < x.fr) := by
  have := okS_iff.1 h
  by_cases he : e < x.fr
  · simp [he]; exact okS_iff.2 ⟨by omega, by omega, by omega, by omega⟩
  · simp [okS, he]

set_option maxHeartbeats 2000000 in
theorem rvalid_any (l : List Sp) (v : Value) (w : World) (h : RdS w v l) :
    Calls Try.prog 14 #[v] w fun e w' => e = .returned (.bool (canF (-1) l)) ∧ Below w.heap.size w w' := by
  obtain ⟨a, cap, rfl, hcap, hlen, hp⟩ := h
  have HP := Lib.hid hp
  clear hp
  go_enter Try.func14, Try.ntmps14
  go_wp2
  go_loopw [3] (fun i wr => ∃ k : Nat, k ≤ l.length ∧ i = .int .i64 k ∧ canF (endAt l k) (l.drop k) = canF (-1) l ∧ Below w.heap.size w wr) (fun i _ => l.length - (intOf i).toNat)
  case atStart => exact ⟨0, Nat.zero_le _, rfl, rfl, Below.refl _ _⟩
  case round =>
    obtain ⟨k, hk, rfl, hcn, hb⟩ := hrel
    by_cases hlt : k < l.length
    · obtain ⟨b, o, rfl, hc⟩ := HP.out (by omega)
      obtain ⟨c0, c1⟩ := (hc k hlt).stay hb
      rw [drop_at l k hlt] at hcn
      have HN := Lib.hid hcn
      have HE := Lib.hid (show endAt l (k + 1) = (spAt l k).to from rfl)
      clear hcn
      have hkc : k ≤ cap := by omega
      cases hok : okS (-1) (spAt l k)
      case false =>
        have HO := Lib.hid hok
        have HQ := Lib.hid (show canF (-1) l = false by rw [← HN.out]; simp [canF, okS_one hok])
        clear hc hok
        generalize spAt l k = x at *
        obtain ⟨xf, xt⟩ := x
        go_wp2
        have k0 := cell_regrown c0
        have k1 := cell_regrown c1
        refine wp_region_B (by kernel_rfl) (by kernel_rfl) ?_
        repeat (go_big_quiet_step ((go_at_call 31; exact Calls.regrown_of (rone_r HO.out _))))
        refine wpQuiet_nil ?_
        intro w2 hb2
        clear k0 k1
        replace hb := below_mid hb hb2
        go_wp2
        go_ret
        exact ⟨by rw [HQ.out]; rfl, hb⟩
      case true =>
        have HO := Lib.hid hok
        have HT := Lib.hid (okS_two (e := endAt l k) hok)
        obtain rfl | ⟨m, rfl⟩ : k = 0 ∨ ∃ m, k = m + 1 := by
          cases k with
          | zero => exact .inl rfl
          | succ m => exact .inr ⟨m, rfl⟩
        · have HQ := Lib.hid (show canF (spAt l 0).to (l.drop (0 + 1)) = canF (-1) l by
            rw [← HN.out]
            have h := HT.out
            have hk0 := okS_iff.1 hok
            rw [show decide (endAt l 0 < (spAt l 0).fr) = true from decide_eq_true (by simp only [endAt]; omega)] at h
            simp [canF, h])
          clear hc hok
          simp only [Nat.zero_mul, Nat.add_zero] at c0 c1
          generalize spAt l 0 = x at *
          obtain ⟨xf, xt⟩ := x
          go_wp2
          have k0 := cell_regrown c0
          have k1 := cell_regrown c1
          refine wp_region_B (by kernel_rfl) (by kernel_rfl) ?_
          repeat (go_big_quiet_step ((go_at_call 31; exact Calls.regrown_of (rone_r HO.out _))))
          refine wpQuiet_nil ?_
          intro w2 hb2
          clear k0 k1
          replace hb := below_mid hb hb2
          go_wp2
          go_roundw
          case rel => exact ⟨0 + 1, by omega, by go_num, by rw [HE.out]; exact HQ.out, hb⟩
          case measure => simp [intOf]; omega
        · obtain ⟨e0, e1⟩ := (hc m (by omega)).stay hb
          have HQ := Lib.hid (show endAt l (m + 1) = (spAt l m).to from rfl)
          clear hc hok
          generalize spAt l (m + 1) = x at *
          generalize spAt l m = y at *
          obtain ⟨xf, xt⟩ := x
          obtain ⟨yf, yt⟩ := y
          have hm1 : (m + 1 : Nat) ≤ 100000 := by omega
          by_cases hle : xf ≤ yt
          · have HF := Lib.hid (show canF (-1) l = false by
              rw [← HN.out]
              have h := HT.out
              rw [HQ.out, show decide (yt < xf) = false from decide_eq_false (by omega)] at h
              rw [HQ.out]
              simp [canF, h])
            go_wp2
            have k0 := cell_regrown c0
            have k1 := cell_regrown c1
            have k2 := cell_regrown e1
            refine wp_region_B (by kernel_rfl) (by kernel_rfl) ?_
            repeat (go_big_quiet_step ((go_at_call 31; exact Calls.regrown_of (rone_r HO.out _))))
            refine wpQuiet_nil ?_
            intro w2 hb2
            clear k0 k1 k2
            replace hb := below_mid hb hb2
            go_wp2
            go_ret
            exact ⟨by rw [HF.out]; rfl, hb⟩
          · have HF := Lib.hid (show canF xt (l.drop (m + 1 + 1)) = canF (-1) l by
              rw [← HN.out]
              have h := HT.out
              rw [HQ.out, show decide (yt < xf) = true from decide_eq_true (by omega)] at h
              rw [HQ.out]
              simp [canF, h])
            go_wp2
            have k0 := cell_regrown c0
            have k1 := cell_regrown c1
            have k2 := cell_regrown e1
            refine wp_region_B (by kernel_rfl) (by kernel_rfl) ?_
            repeat (go_big_quiet_step ((go_at_call 31; exact Calls.regrown_of (rone_r HO.out _))))
            refine wpQuiet_nil ?_
            intro w2 hb2
            clear k0 k1 k2
            replace hb := below_mid hb hb2
            go_wp2
            go_roundw
            case rel => exact ⟨m + 1 + 1, by omega, by go_num, by rw [HE.out]; exact HF.out, hb⟩
            case measure => simp [intOf]; omega
    · have HQ := Lib.hid (show canF (-1) l = true by rw [← hcn, List.drop_of_length_le (by omega)]; rfl)
      clear hcn
      go_wp2
      go_ret
      exact ⟨by rw [HQ.out]; rfl, hb⟩

theorem rvalid_r {l : List Sp} {r : Bool} (h : canF (-1) l = r) (v : Value) (w : World) (hR : RdS w v l) :
    Calls Try.prog 14 #[v] w fun e w' => e = .returned (.bool r) ∧ Below w.heap.size w w' := h ▸ rvalid_any l v w hR

set_option maxHeartbeats 2000000 in
theorem rsame_any (l r : List Sp) (v u : Value) (w : World) (h : RdS w v l) (h2 : RdS w u r) :
    Calls Try.prog 16 #[v, u] w fun e w' => e = .returned (.bool (decide (l = r))) ∧ Below w.heap.size w w' := by
  obtain ⟨a, cap, rfl, hcap, hlen, hp⟩ := h
  obtain ⟨ar, cr, rfl, hcr, hlr, hpr⟩ := h2
  have HP := Lib.hid hp
  have HPR := Lib.hid hpr
  clear hp hpr
  by_cases hn : l.length = r.length
  case neg =>
    have HR := Lib.hid (show decide (l = r) = false from decide_eq_false (fun e => hn (by rw [e])))
    have hn' : ((l.length : Int) != (r.length : Int)) = true := by simp; omega
    clear hn
    go_enter Try.func16, Try.ntmps16
    go_wp2
    go_ret
    exact ⟨by rw [HR.out]; rfl, Below.refl _ _⟩
  case pos =>
    have hn' : ((l.length : Int) != (r.length : Int)) = false := by simp; omega
    have HLE := Lib.hid hn
    clear hn
    go_enter Try.func16, Try.ntmps16
    go_wp2
    go_loopw [5] (fun i wr => ∃ k : Nat, k ≤ l.length ∧ i = .int .i64 k ∧ (∀ i, i < k → spAt l i = spAt r i) ∧ Below w.heap.size w wr) (fun i _ => l.length - (intOf i).toNat)
    case atStart => exact ⟨0, Nat.zero_le _, rfl, fun i hi => by omega, Below.refl _ _⟩
    case round =>
      obtain ⟨k, hk, rfl, hall, hb⟩ := hrel
      by_cases hlt : k < l.length
      · obtain ⟨b, o, rfl, hc⟩ := HP.out (by omega)
        have hkr : k < r.length := by have := HLE.out; omega
        obtain ⟨br, or, rfl, hcr2⟩ := HPR.out (by omega)
        obtain ⟨c0, c1⟩ := (hc k hlt).stay hb
        obtain ⟨y0, y1⟩ := (hcr2 k hkr).stay hb
        have HDI := Lib.hid (fun h => diff_at hlt hkr h)
        have HEX := Lib.hid (show spAt l k = spAt r k → ∀ i, i < k + 1 → spAt l i = spAt r i from fun h i hi => by
          by_cases e : i = k
          · rw [e]; exact h
          · exact hall i (by omega))
        have hkc : k ≤ cap := by omega
        have hkd : k ≤ cr := by omega
        clear hc hcr2 hall
        generalize spAt l k = x at *
        generalize spAt r k = y at *
        obtain ⟨xf, xt⟩ := x
        obtain ⟨yf, yt⟩ := y
        have eg := egS
        cases e1 : (xf == yf)
        case false =>
          have HT := Lib.hid (show decide (l = r) = false from decide_eq_false (HDI.out (fun e => by cases e; simp at e1)))
          go_wp2
          have k0 := cell_regrown c0
          have k1 := cell_regrown c1
          have k2 := cell_regrown y0
          have k3 := cell_regrown y1
          refine wp_region_B (by kernel_rfl) (by kernel_rfl) ?_
          repeat (go_big_quiet_step (fail))
          refine wpQuiet_nil ?_
          intro w2 hb2
          clear k0 k1 k2 k3
          replace hb := below_mid hb hb2
          go_wp2
          go_ret
          exact ⟨by rw [HT.out]; rfl, hb⟩
        case true =>
          cases e2 : (xt == yt)
          case false =>
            have HT := Lib.hid (show decide (l = r) = false from decide_eq_false (HDI.out (fun e => by cases e; simp at e2)))
            go_wp2
            have k0 := cell_regrown c0
            have k1 := cell_regrown c1
            have k2 := cell_regrown y0
            have k3 := cell_regrown y1
            refine wp_region_B (by kernel_rfl) (by kernel_rfl) ?_
            repeat (go_big_quiet_step (fail))
            refine wpQuiet_nil ?_
            intro w2 hb2
            clear k0 k1 k2 k3
            replace hb := below_mid hb hb2
            go_wp2
            go_ret
            exact ⟨by rw [HT.out]; rfl, hb⟩
          case true =>
            have HT := Lib.hid (HEX.out (by rw [show xf = yf by simpa using e1, show xt = yt by simpa using e2]))
            go_wp2
            have k0 := cell_regrown c0
            have k1 := cell_regrown c1
            have k2 := cell_regrown y0
            have k3 := cell_regrown y1
            refine wp_region_B (by kernel_rfl) (by kernel_rfl) ?_
            repeat (go_big_quiet_step (fail))
            refine wpQuiet_nil ?_
            intro w2 hb2
            clear k0 k1 k2 k3
            replace hb := below_mid hb hb2
            go_wp2
            go_roundw
            case rel => exact ⟨k + 1, by omega, by go_num, HT.out, hb⟩
            case measure => simp [intOf]; omega
      · have HT := Lib.hid (show decide (l = r) = true from decide_eq_true (same_at HLE.out (fun i hi => hall i (by omega))))
        clear hall
        go_wp2
        go_ret
        exact ⟨by rw [HT.out]; rfl, hb⟩
theorem rsame_r {l r : List Sp} {b : Bool} (hb : decide (l = r) = b) (v u : Value) (w : World) (h : RdS w v l) (h2 : RdS w u r) :
    Calls Try.prog 16 #[v, u] w fun e w' => e = .returned (.bool b) ∧ Below w.heap.size w w' := hb ▸ rsame_any l r v u w h h2

end Go.Proofs.Ythkkhgfdppbphaa
