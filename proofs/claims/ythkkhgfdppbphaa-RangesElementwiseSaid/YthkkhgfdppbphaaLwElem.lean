/- RangesElementwise, walked. -/
import Derived.Test.YthkkhgfdppbphaaLwD
namespace Go.Proofs.Ythkkhgfdppbphaa
open Go.RowKit Go.Sort Go.Shelf
set_option linter.unusedVariables false

theorem has_r {l : List Sp} {n : Int} {b : Bool} (he : hasB l n = b) (v : Value) (w : World) (h : RdS w v l) :
    Calls Try.prog 27 #[v, .int .i64 n] w fun e w' => e = .returned (.bool b) ∧ Below w.heap.size w w' := he ▸ has_any l n v w h

set_option maxRecDepth 100000 in
set_option maxHeartbeats 4000000 in
theorem elem_walk (n : Nat) (f : Nat → Sp) (v : Value) (y : Sp) (x0 : World) (hv : RdX x0 v n f) (hy : i64S y) :
    Calls Try.prog 4 #[v, spV y] x0 fun e w' => e = .returned (.bool true) ∧ Below x0.heap.size x0 w' := by
  have B := Lib.hid (Below.refl x0.heap.size x0)
  have RX := Lib.hid hv
  obtain ⟨av, cv, rfl, _⟩ := hv
  obtain ⟨y0, y1⟩ := y
  have HI := Lib.hid (spans_inv f (min n 10))
  have PS := Lib.hid (spans_any n f (.slice av n cv))
  have PY := Lib.hid (fun w => span_any ⟨y0, y1⟩ w hy)
  have SY := Lib.hid (spanF_ok ⟨y0, y1⟩)
  clear hy
  generalize spanF ⟨y0, y1⟩ = s at *
  obtain ⟨s0, s1⟩ := s
  generalize spansF f (min n 10) = l at *
  obtain ⟨x1, hx1⟩ : ∃ y, x0.alloc (.cells #[.int .i64 y0, .int .i64 y1] 26) = y := ⟨_, rfl⟩
  have hb : Below x0.heap.size x0 x1 := hx1 ▸ bal x0 (.cells #[.int .i64 y0, .int .i64 y1] 26)
  replace RX := Lib.hid (RX.out.stay hb)
  replace B := Lib.hid (below_mid B.out hb)
  clear hb
  have Y0 := Lib.hid (hx1 ▸ (box1 x0 y0 y1 26).1)
  have Y1 := Lib.hid (hx1 ▸ (box1 x0 y0 y1 26).2)
  have pY0 := Y0.out
  have pY1 := Y1.out
  go_enter Try.func4, Try.ntmps4
  have uY0 := Y0.out
  have uY1 := Y1.out
  go_wp2_with fail
  clear uY0 uY1 pY0 pY1
  refine (sane_any _).mono ?_
  rintro e x2 ⟨rfl, hb⟩
  replace RX := Lib.hid (RX.out.stay hb)
  replace Y0 := Lib.hid (keep hb Y0.out)
  replace Y1 := Lib.hid (keep hb Y1.out)
  replace B := Lib.hid (below_mid B.out hb)
  clear hb
  have uY0 := Y0.out
  have uY1 := Y1.out
  go_wp2_with fail
  clear uY0 uY1
  refine (PS.out _ RX.out).mono ?_
  rintro e x3 ⟨vl, rfl, r0, hb⟩
  replace RX := Lib.hid (RX.out.stay hb)
  replace Y0 := Lib.hid (keep hb Y0.out)
  replace Y1 := Lib.hid (keep hb Y1.out)
  replace B := Lib.hid (below_mid B.out hb)
  have RL := Lib.hid r0
  clear hb r0
  clear RX
  clear PS
  have uY0 := Y0.out
  have uY1 := Y1.out
  go_wp2_with fail
  clear uY0 uY1
  refine (PY.out _).mono ?_
  rintro e x4 ⟨rfl, hb⟩
  replace RL := Lib.hid (RL.out.stay hb)
  replace Y0 := Lib.hid (keep hb Y0.out)
  replace Y1 := Lib.hid (keep hb Y1.out)
  replace B := Lib.hid (below_mid B.out hb)
  clear hb
  clear PY
  clear Y0
  clear Y1
  obtain ⟨x5, hx5⟩ : ∃ y, x4.alloc (.cells #[.int .i64 s0, .int .i64 s1] 24) = y := ⟨_, rfl⟩
  have hb : Below x4.heap.size x4 x5 := hx5 ▸ bal x4 (.cells #[.int .i64 s0, .int .i64 s1] 24)
  replace RL := Lib.hid (RL.out.stay hb)
  replace B := Lib.hid (below_mid B.out hb)
  clear hb
  have S0 := Lib.hid (hx5 ▸ (box1 x4 s0 s1 24).1)
  have S1 := Lib.hid (hx5 ▸ (box1 x4 s0 s1 24).2)
  have pS0 := S0.out
  have pS1 := S1.out
  have IR := Lib.hid (HI.out.rem SY.out)
  have IA := Lib.hid (HI.out.add SY.out)
  have IG := Lib.hid (HI.out.gap SY.out)
  have HC := Lib.hid (plain_all HI.out SY.out)
  have QA := Lib.hid (has_add HI.out SY.out)
  have QR := Lib.hid (has_rem HI.out SY.out)
  have QG := Lib.hid (has_gap HI.out SY.out)
  have QS := Lib.hid (allB_succ l ⟨s0, s1⟩)
  have MA := Lib.hid (add_any l ⟨s0, s1⟩)
  have MR := Lib.hid (remove_any l ⟨s0, s1⟩)
  have MG := Lib.hid (gaps_any l ⟨s0, s1⟩)
  have MC := Lib.hid (contains_any l ⟨s0, s1⟩)
  have QO := Lib.hid (show ∀ n, ownB ⟨s0, s1⟩ n = (decide (s0 ≤ n) && decide (n < s1)) from fun _ => rfl)
  generalize gapF l ⟨s0, s1⟩ = lg at *
  generalize addF l ⟨s0, s1⟩ = la at *
  generalize remF l ⟨s0, s1⟩ = lr at *
  generalize conF l ⟨s0, s1⟩ = lc at *
  have uS0 := S0.out
  have uS1 := S1.out
  go_wp2_with fail
  clear uS0 uS1 pS0 pS1
  refine (MA.out _ _ RL.out (by have := HI.out.len; omega)).mono ?_
  rintro e x6 ⟨va, rfl, r0, hb⟩
  replace RL := Lib.hid (RL.out.stay hb)
  replace S0 := Lib.hid (keep hb S0.out)
  replace S1 := Lib.hid (keep hb S1.out)
  replace B := Lib.hid (below_mid B.out hb)
  have RA := Lib.hid r0
  clear hb r0
  have uS0 := S0.out
  have uS1 := S1.out
  go_wp2_with fail
  clear uS0 uS1
  refine (MR.out _ _ RL.out (by have := HI.out.len; omega)).mono ?_
  rintro e x7 ⟨vr, rfl, r0, hb⟩
  replace RL := Lib.hid (RL.out.stay hb)
  replace RA := Lib.hid (RA.out.stay hb)
  replace S0 := Lib.hid (keep hb S0.out)
  replace S1 := Lib.hid (keep hb S1.out)
  replace B := Lib.hid (below_mid B.out hb)
  have RR := Lib.hid r0
  clear hb r0
  have uS0 := S0.out
  have uS1 := S1.out
  go_wp2_with fail
  clear uS0 uS1
  refine (MG.out _ _ RL.out (by have := HI.out.len; omega)).mono ?_
  rintro e x8 ⟨vg, rfl, r0, hb⟩
  replace RL := Lib.hid (RL.out.stay hb)
  replace RA := Lib.hid (RA.out.stay hb)
  replace RR := Lib.hid (RR.out.stay hb)
  replace S0 := Lib.hid (keep hb S0.out)
  replace S1 := Lib.hid (keep hb S1.out)
  replace B := Lib.hid (below_mid B.out hb)
  have RG := Lib.hid r0
  clear hb r0
  obtain ⟨ag, cg, rfl, hcg, hlg, hpg⟩ := RG.out
  clear hpg
  have uS0 := S0.out
  have uS1 := S1.out
  go_wp2_with fail
  clear uS0 uS1
  refine (valid_r HI.out.1 _ _ RL.out).mono ?_
  rintro e x9 ⟨rfl, hb⟩
  replace RL := Lib.hid (RL.out.stay hb)
  replace RA := Lib.hid (RA.out.stay hb)
  replace RR := Lib.hid (RR.out.stay hb)
  replace RG := Lib.hid (RG.out.stay hb)
  replace S0 := Lib.hid (keep hb S0.out)
  replace S1 := Lib.hid (keep hb S1.out)
  replace B := Lib.hid (below_mid B.out hb)
  clear hb
  have uS0 := S0.out
  have uS1 := S1.out
  go_wp2_with fail
  clear uS0 uS1
  refine (valid_r IA.out.1 _ _ RA.out).mono ?_
  rintro e x10 ⟨rfl, hb⟩
  replace RL := Lib.hid (RL.out.stay hb)
  replace RA := Lib.hid (RA.out.stay hb)
  replace RR := Lib.hid (RR.out.stay hb)
  replace RG := Lib.hid (RG.out.stay hb)
  replace S0 := Lib.hid (keep hb S0.out)
  replace S1 := Lib.hid (keep hb S1.out)
  replace B := Lib.hid (below_mid B.out hb)
  clear hb
  have uS0 := S0.out
  have uS1 := S1.out
  go_wp2_with fail
  clear uS0 uS1
  refine (valid_r IR.out.1 _ _ RR.out).mono ?_
  rintro e x11 ⟨rfl, hb⟩
  replace RL := Lib.hid (RL.out.stay hb)
  replace RA := Lib.hid (RA.out.stay hb)
  replace RR := Lib.hid (RR.out.stay hb)
  replace RG := Lib.hid (RG.out.stay hb)
  replace S0 := Lib.hid (keep hb S0.out)
  replace S1 := Lib.hid (keep hb S1.out)
  replace B := Lib.hid (below_mid B.out hb)
  clear hb
  have uS0 := S0.out
  have uS1 := S1.out
  go_wp2_with fail
  clear uS0 uS1
  refine (valid_r IG.out.1 _ _ RG.out).mono ?_
  rintro e x12 ⟨rfl, hb⟩
  replace RL := Lib.hid (RL.out.stay hb)
  replace RA := Lib.hid (RA.out.stay hb)
  replace RR := Lib.hid (RR.out.stay hb)
  replace RG := Lib.hid (RG.out.stay hb)
  replace S0 := Lib.hid (keep hb S0.out)
  replace S1 := Lib.hid (keep hb S1.out)
  replace B := Lib.hid (below_mid B.out hb)
  clear hb
  have uS0 := S0.out
  have uS1 := S1.out
  go_wp2
  clear uS0 uS1
  go_loopw [11, 12, 13, 14] (fun all i _ _ wr => ∃ k : Nat, k ≤ 80 ∧ i = .int .i64 k ∧ all = .bool (allB l ⟨s0, s1⟩ k) ∧ Below x12.heap.size x12 wr) (fun _ i _ _ _ => 80 - (intOf i).toNat)
  case atStart => exact ⟨0, Nat.zero_le _, rfl, rfl, Below.refl _ _⟩
  case round =>
    obtain ⟨k, hk, rfl, rfl, hb⟩ := hrel
    by_cases hlt : k < 80
    · have QAk := Lib.hid (QA.out k)
      have QRk := Lib.hid (QR.out k)
      have QGk := Lib.hid (QG.out k)
      have QSk := Lib.hid (QS.out k)
      have QOk := Lib.hid (QO.out k)
      clear QA QR QG QS QO HC
      have HL := Lib.hid (has_any l k)
      generalize ownB ⟨s0, s1⟩ k = own at *
      generalize hasB l k = inn at *
      obtain ⟨all2, ha2⟩ : ∃ b, allB l ⟨s0, s1⟩ (k + 1) = b := ⟨_, rfl⟩
      have QSe := Lib.hid ha2
      rw [ha2] at QSk
      clear ha2
      generalize allB l ⟨s0, s1⟩ k = all1 at *
      have BL := Lib.hid hb
      replace RL := Lib.hid (RL.out.stay hb)
      replace RA := Lib.hid (RA.out.stay hb)
      replace RR := Lib.hid (RR.out.stay hb)
      replace RG := Lib.hid (RG.out.stay hb)
      replace S0 := Lib.hid (keep hb S0.out)
      replace S1 := Lib.hid (keep hb S1.out)
      replace B := Lib.hid (below_mid B.out hb)
      clear hb
      by_cases p1 : s0 ≤ (k : Int)
      · by_cases p2 : (k : Int) < s1
        · obtain rfl : own = true := by rw [QOk.out]; simp [p1, p2]
          clear QOk
          cases inn
          · cases all1
            · skip
              have uS0 := S0.out
              have uS1 := S1.out
              go_wp2_with fail
              clear uS0 uS1
              refine (HL.out _ _ RL.out).mono ?_
              rintro e x13 ⟨rfl, hb⟩
              replace RL := Lib.hid (RL.out.stay hb)
              replace RA := Lib.hid (RA.out.stay hb)
              replace RR := Lib.hid (RR.out.stay hb)
              replace RG := Lib.hid (RG.out.stay hb)
              replace S0 := Lib.hid (keep hb S0.out)
              replace S1 := Lib.hid (keep hb S1.out)
              replace B := Lib.hid (below_mid B.out hb)
              replace BL := Lib.hid (below_mid BL.out hb)
              clear hb
              have uS0 := S0.out
              have uS1 := S1.out
              go_wp2_with fail
              clear uS0 uS1
              refine (has_r (show hasB la k = true from QAk.out) _ _ RA.out).mono ?_
              rintro e x14 ⟨rfl, hb⟩
              replace RL := Lib.hid (RL.out.stay hb)
              replace RA := Lib.hid (RA.out.stay hb)
              replace RR := Lib.hid (RR.out.stay hb)
              replace RG := Lib.hid (RG.out.stay hb)
              replace S0 := Lib.hid (keep hb S0.out)
              replace S1 := Lib.hid (keep hb S1.out)
              replace B := Lib.hid (below_mid B.out hb)
              replace BL := Lib.hid (below_mid BL.out hb)
              clear hb
              have uS0 := S0.out
              have uS1 := S1.out
              go_wp2_with fail
              clear uS0 uS1
              refine (has_r (show hasB lr k = false from QRk.out) _ _ RR.out).mono ?_
              rintro e x15 ⟨rfl, hb⟩
              replace RL := Lib.hid (RL.out.stay hb)
              replace RA := Lib.hid (RA.out.stay hb)
              replace RR := Lib.hid (RR.out.stay hb)
              replace RG := Lib.hid (RG.out.stay hb)
              replace S0 := Lib.hid (keep hb S0.out)
              replace S1 := Lib.hid (keep hb S1.out)
              replace B := Lib.hid (below_mid B.out hb)
              replace BL := Lib.hid (below_mid BL.out hb)
              clear hb
              have uS0 := S0.out
              have uS1 := S1.out
              go_wp2_with fail
              clear uS0 uS1
              refine (has_r (show hasB lg k = true from QGk.out) _ _ RG.out).mono ?_
              rintro e x16 ⟨rfl, hb⟩
              replace RL := Lib.hid (RL.out.stay hb)
              replace RA := Lib.hid (RA.out.stay hb)
              replace RR := Lib.hid (RR.out.stay hb)
              replace RG := Lib.hid (RG.out.stay hb)
              replace S0 := Lib.hid (keep hb S0.out)
              replace S1 := Lib.hid (keep hb S1.out)
              replace B := Lib.hid (below_mid B.out hb)
              replace BL := Lib.hid (below_mid BL.out hb)
              clear hb
              have uS0 := S0.out
              have uS1 := S1.out
              go_wp2
              clear uS0 uS1
              go_roundw
              case rel => exact ⟨k + 1, by omega, by go_num, by rw [QSe.out, QSk.out]; rfl, BL.out⟩
              case measure => simp [intOf]; omega
            · skip
              have uS0 := S0.out
              have uS1 := S1.out
              go_wp2_with fail
              clear uS0 uS1
              refine (HL.out _ _ RL.out).mono ?_
              rintro e x13 ⟨rfl, hb⟩
              replace RL := Lib.hid (RL.out.stay hb)
              replace RA := Lib.hid (RA.out.stay hb)
              replace RR := Lib.hid (RR.out.stay hb)
              replace RG := Lib.hid (RG.out.stay hb)
              replace S0 := Lib.hid (keep hb S0.out)
              replace S1 := Lib.hid (keep hb S1.out)
              replace B := Lib.hid (below_mid B.out hb)
              replace BL := Lib.hid (below_mid BL.out hb)
              clear hb
              have uS0 := S0.out
              have uS1 := S1.out
              go_wp2_with fail
              clear uS0 uS1
              refine (has_r (show hasB la k = true from QAk.out) _ _ RA.out).mono ?_
              rintro e x14 ⟨rfl, hb⟩
              replace RL := Lib.hid (RL.out.stay hb)
              replace RA := Lib.hid (RA.out.stay hb)
              replace RR := Lib.hid (RR.out.stay hb)
              replace RG := Lib.hid (RG.out.stay hb)
              replace S0 := Lib.hid (keep hb S0.out)
              replace S1 := Lib.hid (keep hb S1.out)
              replace B := Lib.hid (below_mid B.out hb)
              replace BL := Lib.hid (below_mid BL.out hb)
              clear hb
              have uS0 := S0.out
              have uS1 := S1.out
              go_wp2_with fail
              clear uS0 uS1
              refine (has_r (show hasB lr k = false from QRk.out) _ _ RR.out).mono ?_
              rintro e x15 ⟨rfl, hb⟩
              replace RL := Lib.hid (RL.out.stay hb)
              replace RA := Lib.hid (RA.out.stay hb)
              replace RR := Lib.hid (RR.out.stay hb)
              replace RG := Lib.hid (RG.out.stay hb)
              replace S0 := Lib.hid (keep hb S0.out)
              replace S1 := Lib.hid (keep hb S1.out)
              replace B := Lib.hid (below_mid B.out hb)
              replace BL := Lib.hid (below_mid BL.out hb)
              clear hb
              have uS0 := S0.out
              have uS1 := S1.out
              go_wp2_with fail
              clear uS0 uS1
              refine (has_r (show hasB lg k = true from QGk.out) _ _ RG.out).mono ?_
              rintro e x16 ⟨rfl, hb⟩
              replace RL := Lib.hid (RL.out.stay hb)
              replace RA := Lib.hid (RA.out.stay hb)
              replace RR := Lib.hid (RR.out.stay hb)
              replace RG := Lib.hid (RG.out.stay hb)
              replace S0 := Lib.hid (keep hb S0.out)
              replace S1 := Lib.hid (keep hb S1.out)
              replace B := Lib.hid (below_mid B.out hb)
              replace BL := Lib.hid (below_mid BL.out hb)
              clear hb
              have uS0 := S0.out
              have uS1 := S1.out
              go_wp2
              clear uS0 uS1
              go_roundw
              case rel => exact ⟨k + 1, by omega, by go_num, by rw [QSe.out, QSk.out]; rfl, BL.out⟩
              case measure => simp [intOf]; omega
          · cases all1
            · skip
              have uS0 := S0.out
              have uS1 := S1.out
              go_wp2_with fail
              clear uS0 uS1
              refine (HL.out _ _ RL.out).mono ?_
              rintro e x13 ⟨rfl, hb⟩
              replace RL := Lib.hid (RL.out.stay hb)
              replace RA := Lib.hid (RA.out.stay hb)
              replace RR := Lib.hid (RR.out.stay hb)
              replace RG := Lib.hid (RG.out.stay hb)
              replace S0 := Lib.hid (keep hb S0.out)
              replace S1 := Lib.hid (keep hb S1.out)
              replace B := Lib.hid (below_mid B.out hb)
              replace BL := Lib.hid (below_mid BL.out hb)
              clear hb
              have uS0 := S0.out
              have uS1 := S1.out
              go_wp2_with fail
              clear uS0 uS1
              refine (has_r (show hasB la k = true from QAk.out) _ _ RA.out).mono ?_
              rintro e x14 ⟨rfl, hb⟩
              replace RL := Lib.hid (RL.out.stay hb)
              replace RA := Lib.hid (RA.out.stay hb)
              replace RR := Lib.hid (RR.out.stay hb)
              replace RG := Lib.hid (RG.out.stay hb)
              replace S0 := Lib.hid (keep hb S0.out)
              replace S1 := Lib.hid (keep hb S1.out)
              replace B := Lib.hid (below_mid B.out hb)
              replace BL := Lib.hid (below_mid BL.out hb)
              clear hb
              have uS0 := S0.out
              have uS1 := S1.out
              go_wp2_with fail
              clear uS0 uS1
              refine (has_r (show hasB lr k = false from QRk.out) _ _ RR.out).mono ?_
              rintro e x15 ⟨rfl, hb⟩
              replace RL := Lib.hid (RL.out.stay hb)
              replace RA := Lib.hid (RA.out.stay hb)
              replace RR := Lib.hid (RR.out.stay hb)
              replace RG := Lib.hid (RG.out.stay hb)
              replace S0 := Lib.hid (keep hb S0.out)
              replace S1 := Lib.hid (keep hb S1.out)
              replace B := Lib.hid (below_mid B.out hb)
              replace BL := Lib.hid (below_mid BL.out hb)
              clear hb
              have uS0 := S0.out
              have uS1 := S1.out
              go_wp2_with fail
              clear uS0 uS1
              refine (has_r (show hasB lg k = false from QGk.out) _ _ RG.out).mono ?_
              rintro e x16 ⟨rfl, hb⟩
              replace RL := Lib.hid (RL.out.stay hb)
              replace RA := Lib.hid (RA.out.stay hb)
              replace RR := Lib.hid (RR.out.stay hb)
              replace RG := Lib.hid (RG.out.stay hb)
              replace S0 := Lib.hid (keep hb S0.out)
              replace S1 := Lib.hid (keep hb S1.out)
              replace B := Lib.hid (below_mid B.out hb)
              replace BL := Lib.hid (below_mid BL.out hb)
              clear hb
              have uS0 := S0.out
              have uS1 := S1.out
              go_wp2
              clear uS0 uS1
              go_roundw
              case rel => exact ⟨k + 1, by omega, by go_num, by rw [QSe.out, QSk.out]; rfl, BL.out⟩
              case measure => simp [intOf]; omega
            · skip
              have uS0 := S0.out
              have uS1 := S1.out
              go_wp2_with fail
              clear uS0 uS1
              refine (HL.out _ _ RL.out).mono ?_
              rintro e x13 ⟨rfl, hb⟩
              replace RL := Lib.hid (RL.out.stay hb)
              replace RA := Lib.hid (RA.out.stay hb)
              replace RR := Lib.hid (RR.out.stay hb)
              replace RG := Lib.hid (RG.out.stay hb)
              replace S0 := Lib.hid (keep hb S0.out)
              replace S1 := Lib.hid (keep hb S1.out)
              replace B := Lib.hid (below_mid B.out hb)
              replace BL := Lib.hid (below_mid BL.out hb)
              clear hb
              have uS0 := S0.out
              have uS1 := S1.out
              go_wp2_with fail
              clear uS0 uS1
              refine (has_r (show hasB la k = true from QAk.out) _ _ RA.out).mono ?_
              rintro e x14 ⟨rfl, hb⟩
              replace RL := Lib.hid (RL.out.stay hb)
              replace RA := Lib.hid (RA.out.stay hb)
              replace RR := Lib.hid (RR.out.stay hb)
              replace RG := Lib.hid (RG.out.stay hb)
              replace S0 := Lib.hid (keep hb S0.out)
              replace S1 := Lib.hid (keep hb S1.out)
              replace B := Lib.hid (below_mid B.out hb)
              replace BL := Lib.hid (below_mid BL.out hb)
              clear hb
              have uS0 := S0.out
              have uS1 := S1.out
              go_wp2_with fail
              clear uS0 uS1
              refine (has_r (show hasB lr k = false from QRk.out) _ _ RR.out).mono ?_
              rintro e x15 ⟨rfl, hb⟩
              replace RL := Lib.hid (RL.out.stay hb)
              replace RA := Lib.hid (RA.out.stay hb)
              replace RR := Lib.hid (RR.out.stay hb)
              replace RG := Lib.hid (RG.out.stay hb)
              replace S0 := Lib.hid (keep hb S0.out)
              replace S1 := Lib.hid (keep hb S1.out)
              replace B := Lib.hid (below_mid B.out hb)
              replace BL := Lib.hid (below_mid BL.out hb)
              clear hb
              have uS0 := S0.out
              have uS1 := S1.out
              go_wp2_with fail
              clear uS0 uS1
              refine (has_r (show hasB lg k = false from QGk.out) _ _ RG.out).mono ?_
              rintro e x16 ⟨rfl, hb⟩
              replace RL := Lib.hid (RL.out.stay hb)
              replace RA := Lib.hid (RA.out.stay hb)
              replace RR := Lib.hid (RR.out.stay hb)
              replace RG := Lib.hid (RG.out.stay hb)
              replace S0 := Lib.hid (keep hb S0.out)
              replace S1 := Lib.hid (keep hb S1.out)
              replace B := Lib.hid (below_mid B.out hb)
              replace BL := Lib.hid (below_mid BL.out hb)
              clear hb
              have uS0 := S0.out
              have uS1 := S1.out
              go_wp2
              clear uS0 uS1
              go_roundw
              case rel => exact ⟨k + 1, by omega, by go_num, by rw [QSe.out, QSk.out]; rfl, BL.out⟩
              case measure => simp [intOf]; omega
        · obtain rfl : own = false := by rw [QOk.out]; simp [p1, p2]
          clear QOk
          cases inn
          · cases all1
            · skip
              have uS0 := S0.out
              have uS1 := S1.out
              go_wp2_with fail
              clear uS0 uS1
              refine (HL.out _ _ RL.out).mono ?_
              rintro e x13 ⟨rfl, hb⟩
              replace RL := Lib.hid (RL.out.stay hb)
              replace RA := Lib.hid (RA.out.stay hb)
              replace RR := Lib.hid (RR.out.stay hb)
              replace RG := Lib.hid (RG.out.stay hb)
              replace S0 := Lib.hid (keep hb S0.out)
              replace S1 := Lib.hid (keep hb S1.out)
              replace B := Lib.hid (below_mid B.out hb)
              replace BL := Lib.hid (below_mid BL.out hb)
              clear hb
              have uS0 := S0.out
              have uS1 := S1.out
              go_wp2_with fail
              clear uS0 uS1
              refine (has_r (show hasB la k = false from QAk.out) _ _ RA.out).mono ?_
              rintro e x14 ⟨rfl, hb⟩
              replace RL := Lib.hid (RL.out.stay hb)
              replace RA := Lib.hid (RA.out.stay hb)
              replace RR := Lib.hid (RR.out.stay hb)
              replace RG := Lib.hid (RG.out.stay hb)
              replace S0 := Lib.hid (keep hb S0.out)
              replace S1 := Lib.hid (keep hb S1.out)
              replace B := Lib.hid (below_mid B.out hb)
              replace BL := Lib.hid (below_mid BL.out hb)
              clear hb
              have uS0 := S0.out
              have uS1 := S1.out
              go_wp2_with fail
              clear uS0 uS1
              refine (has_r (show hasB lr k = false from QRk.out) _ _ RR.out).mono ?_
              rintro e x15 ⟨rfl, hb⟩
              replace RL := Lib.hid (RL.out.stay hb)
              replace RA := Lib.hid (RA.out.stay hb)
              replace RR := Lib.hid (RR.out.stay hb)
              replace RG := Lib.hid (RG.out.stay hb)
              replace S0 := Lib.hid (keep hb S0.out)
              replace S1 := Lib.hid (keep hb S1.out)
              replace B := Lib.hid (below_mid B.out hb)
              replace BL := Lib.hid (below_mid BL.out hb)
              clear hb
              have uS0 := S0.out
              have uS1 := S1.out
              go_wp2_with fail
              clear uS0 uS1
              refine (has_r (show hasB lg k = false from QGk.out) _ _ RG.out).mono ?_
              rintro e x16 ⟨rfl, hb⟩
              replace RL := Lib.hid (RL.out.stay hb)
              replace RA := Lib.hid (RA.out.stay hb)
              replace RR := Lib.hid (RR.out.stay hb)
              replace RG := Lib.hid (RG.out.stay hb)
              replace S0 := Lib.hid (keep hb S0.out)
              replace S1 := Lib.hid (keep hb S1.out)
              replace B := Lib.hid (below_mid B.out hb)
              replace BL := Lib.hid (below_mid BL.out hb)
              clear hb
              have uS0 := S0.out
              have uS1 := S1.out
              go_wp2
              clear uS0 uS1
              go_roundw
              case rel => exact ⟨k + 1, by omega, by go_num, by rw [QSe.out, QSk.out]; rfl, BL.out⟩
              case measure => simp [intOf]; omega
            · skip
              have uS0 := S0.out
              have uS1 := S1.out
              go_wp2_with fail
              clear uS0 uS1
              refine (HL.out _ _ RL.out).mono ?_
              rintro e x13 ⟨rfl, hb⟩
              replace RL := Lib.hid (RL.out.stay hb)
              replace RA := Lib.hid (RA.out.stay hb)
              replace RR := Lib.hid (RR.out.stay hb)
              replace RG := Lib.hid (RG.out.stay hb)
              replace S0 := Lib.hid (keep hb S0.out)
              replace S1 := Lib.hid (keep hb S1.out)
              replace B := Lib.hid (below_mid B.out hb)
              replace BL := Lib.hid (below_mid BL.out hb)
              clear hb
              have uS0 := S0.out
              have uS1 := S1.out
              go_wp2_with fail
              clear uS0 uS1
              refine (has_r (show hasB la k = false from QAk.out) _ _ RA.out).mono ?_
              rintro e x14 ⟨rfl, hb⟩
              replace RL := Lib.hid (RL.out.stay hb)
              replace RA := Lib.hid (RA.out.stay hb)
              replace RR := Lib.hid (RR.out.stay hb)
              replace RG := Lib.hid (RG.out.stay hb)
              replace S0 := Lib.hid (keep hb S0.out)
              replace S1 := Lib.hid (keep hb S1.out)
              replace B := Lib.hid (below_mid B.out hb)
              replace BL := Lib.hid (below_mid BL.out hb)
              clear hb
              have uS0 := S0.out
              have uS1 := S1.out
              go_wp2_with fail
              clear uS0 uS1
              refine (has_r (show hasB lr k = false from QRk.out) _ _ RR.out).mono ?_
              rintro e x15 ⟨rfl, hb⟩
              replace RL := Lib.hid (RL.out.stay hb)
              replace RA := Lib.hid (RA.out.stay hb)
              replace RR := Lib.hid (RR.out.stay hb)
              replace RG := Lib.hid (RG.out.stay hb)
              replace S0 := Lib.hid (keep hb S0.out)
              replace S1 := Lib.hid (keep hb S1.out)
              replace B := Lib.hid (below_mid B.out hb)
              replace BL := Lib.hid (below_mid BL.out hb)
              clear hb
              have uS0 := S0.out
              have uS1 := S1.out
              go_wp2_with fail
              clear uS0 uS1
              refine (has_r (show hasB lg k = false from QGk.out) _ _ RG.out).mono ?_
              rintro e x16 ⟨rfl, hb⟩
              replace RL := Lib.hid (RL.out.stay hb)
              replace RA := Lib.hid (RA.out.stay hb)
              replace RR := Lib.hid (RR.out.stay hb)
              replace RG := Lib.hid (RG.out.stay hb)
              replace S0 := Lib.hid (keep hb S0.out)
              replace S1 := Lib.hid (keep hb S1.out)
              replace B := Lib.hid (below_mid B.out hb)
              replace BL := Lib.hid (below_mid BL.out hb)
              clear hb
              have uS0 := S0.out
              have uS1 := S1.out
              go_wp2
              clear uS0 uS1
              go_roundw
              case rel => exact ⟨k + 1, by omega, by go_num, by rw [QSe.out, QSk.out]; rfl, BL.out⟩
              case measure => simp [intOf]; omega
          · cases all1
            · skip
              have uS0 := S0.out
              have uS1 := S1.out
              go_wp2_with fail
              clear uS0 uS1
              refine (HL.out _ _ RL.out).mono ?_
              rintro e x13 ⟨rfl, hb⟩
              replace RL := Lib.hid (RL.out.stay hb)
              replace RA := Lib.hid (RA.out.stay hb)
              replace RR := Lib.hid (RR.out.stay hb)
              replace RG := Lib.hid (RG.out.stay hb)
              replace S0 := Lib.hid (keep hb S0.out)
              replace S1 := Lib.hid (keep hb S1.out)
              replace B := Lib.hid (below_mid B.out hb)
              replace BL := Lib.hid (below_mid BL.out hb)
              clear hb
              have uS0 := S0.out
              have uS1 := S1.out
              go_wp2_with fail
              clear uS0 uS1
              refine (has_r (show hasB la k = true from QAk.out) _ _ RA.out).mono ?_
              rintro e x14 ⟨rfl, hb⟩
              replace RL := Lib.hid (RL.out.stay hb)
              replace RA := Lib.hid (RA.out.stay hb)
              replace RR := Lib.hid (RR.out.stay hb)
              replace RG := Lib.hid (RG.out.stay hb)
              replace S0 := Lib.hid (keep hb S0.out)
              replace S1 := Lib.hid (keep hb S1.out)
              replace B := Lib.hid (below_mid B.out hb)
              replace BL := Lib.hid (below_mid BL.out hb)
              clear hb
              have uS0 := S0.out
              have uS1 := S1.out
              go_wp2_with fail
              clear uS0 uS1
              refine (has_r (show hasB lr k = true from QRk.out) _ _ RR.out).mono ?_
              rintro e x15 ⟨rfl, hb⟩
              replace RL := Lib.hid (RL.out.stay hb)
              replace RA := Lib.hid (RA.out.stay hb)
              replace RR := Lib.hid (RR.out.stay hb)
              replace RG := Lib.hid (RG.out.stay hb)
              replace S0 := Lib.hid (keep hb S0.out)
              replace S1 := Lib.hid (keep hb S1.out)
              replace B := Lib.hid (below_mid B.out hb)
              replace BL := Lib.hid (below_mid BL.out hb)
              clear hb
              have uS0 := S0.out
              have uS1 := S1.out
              go_wp2_with fail
              clear uS0 uS1
              refine (has_r (show hasB lg k = false from QGk.out) _ _ RG.out).mono ?_
              rintro e x16 ⟨rfl, hb⟩
              replace RL := Lib.hid (RL.out.stay hb)
              replace RA := Lib.hid (RA.out.stay hb)
              replace RR := Lib.hid (RR.out.stay hb)
              replace RG := Lib.hid (RG.out.stay hb)
              replace S0 := Lib.hid (keep hb S0.out)
              replace S1 := Lib.hid (keep hb S1.out)
              replace B := Lib.hid (below_mid B.out hb)
              replace BL := Lib.hid (below_mid BL.out hb)
              clear hb
              have uS0 := S0.out
              have uS1 := S1.out
              go_wp2
              clear uS0 uS1
              go_roundw
              case rel => exact ⟨k + 1, by omega, by go_num, by rw [QSe.out, QSk.out]; rfl, BL.out⟩
              case measure => simp [intOf]; omega
            · skip
              have uS0 := S0.out
              have uS1 := S1.out
              go_wp2_with fail
              clear uS0 uS1
              refine (HL.out _ _ RL.out).mono ?_
              rintro e x13 ⟨rfl, hb⟩
              replace RL := Lib.hid (RL.out.stay hb)
              replace RA := Lib.hid (RA.out.stay hb)
              replace RR := Lib.hid (RR.out.stay hb)
              replace RG := Lib.hid (RG.out.stay hb)
              replace S0 := Lib.hid (keep hb S0.out)
              replace S1 := Lib.hid (keep hb S1.out)
              replace B := Lib.hid (below_mid B.out hb)
              replace BL := Lib.hid (below_mid BL.out hb)
              clear hb
              have uS0 := S0.out
              have uS1 := S1.out
              go_wp2_with fail
              clear uS0 uS1
              refine (has_r (show hasB la k = true from QAk.out) _ _ RA.out).mono ?_
              rintro e x14 ⟨rfl, hb⟩
              replace RL := Lib.hid (RL.out.stay hb)
              replace RA := Lib.hid (RA.out.stay hb)
              replace RR := Lib.hid (RR.out.stay hb)
              replace RG := Lib.hid (RG.out.stay hb)
              replace S0 := Lib.hid (keep hb S0.out)
              replace S1 := Lib.hid (keep hb S1.out)
              replace B := Lib.hid (below_mid B.out hb)
              replace BL := Lib.hid (below_mid BL.out hb)
              clear hb
              have uS0 := S0.out
              have uS1 := S1.out
              go_wp2_with fail
              clear uS0 uS1
              refine (has_r (show hasB lr k = true from QRk.out) _ _ RR.out).mono ?_
              rintro e x15 ⟨rfl, hb⟩
              replace RL := Lib.hid (RL.out.stay hb)
              replace RA := Lib.hid (RA.out.stay hb)
              replace RR := Lib.hid (RR.out.stay hb)
              replace RG := Lib.hid (RG.out.stay hb)
              replace S0 := Lib.hid (keep hb S0.out)
              replace S1 := Lib.hid (keep hb S1.out)
              replace B := Lib.hid (below_mid B.out hb)
              replace BL := Lib.hid (below_mid BL.out hb)
              clear hb
              have uS0 := S0.out
              have uS1 := S1.out
              go_wp2_with fail
              clear uS0 uS1
              refine (has_r (show hasB lg k = false from QGk.out) _ _ RG.out).mono ?_
              rintro e x16 ⟨rfl, hb⟩
              replace RL := Lib.hid (RL.out.stay hb)
              replace RA := Lib.hid (RA.out.stay hb)
              replace RR := Lib.hid (RR.out.stay hb)
              replace RG := Lib.hid (RG.out.stay hb)
              replace S0 := Lib.hid (keep hb S0.out)
              replace S1 := Lib.hid (keep hb S1.out)
              replace B := Lib.hid (below_mid B.out hb)
              replace BL := Lib.hid (below_mid BL.out hb)
              clear hb
              have uS0 := S0.out
              have uS1 := S1.out
              go_wp2
              clear uS0 uS1
              go_roundw
              case rel => exact ⟨k + 1, by omega, by go_num, by rw [QSe.out, QSk.out]; rfl, BL.out⟩
              case measure => simp [intOf]; omega
      · obtain rfl : own = false := by rw [QOk.out]; simp [p1]
        clear QOk
        cases inn
        · cases all1
          · skip
            have uS0 := S0.out
            have uS1 := S1.out
            go_wp2_with fail
            clear uS0 uS1
            refine (HL.out _ _ RL.out).mono ?_
            rintro e x13 ⟨rfl, hb⟩
            replace RL := Lib.hid (RL.out.stay hb)
            replace RA := Lib.hid (RA.out.stay hb)
            replace RR := Lib.hid (RR.out.stay hb)
            replace RG := Lib.hid (RG.out.stay hb)
            replace S0 := Lib.hid (keep hb S0.out)
            replace S1 := Lib.hid (keep hb S1.out)
            replace B := Lib.hid (below_mid B.out hb)
            replace BL := Lib.hid (below_mid BL.out hb)
            clear hb
            have uS0 := S0.out
            have uS1 := S1.out
            go_wp2_with fail
            clear uS0 uS1
            refine (has_r (show hasB la k = false from QAk.out) _ _ RA.out).mono ?_
            rintro e x14 ⟨rfl, hb⟩
            replace RL := Lib.hid (RL.out.stay hb)
            replace RA := Lib.hid (RA.out.stay hb)
            replace RR := Lib.hid (RR.out.stay hb)
            replace RG := Lib.hid (RG.out.stay hb)
            replace S0 := Lib.hid (keep hb S0.out)
            replace S1 := Lib.hid (keep hb S1.out)
            replace B := Lib.hid (below_mid B.out hb)
            replace BL := Lib.hid (below_mid BL.out hb)
            clear hb
            have uS0 := S0.out
            have uS1 := S1.out
            go_wp2_with fail
            clear uS0 uS1
            refine (has_r (show hasB lr k = false from QRk.out) _ _ RR.out).mono ?_
            rintro e x15 ⟨rfl, hb⟩
            replace RL := Lib.hid (RL.out.stay hb)
            replace RA := Lib.hid (RA.out.stay hb)
            replace RR := Lib.hid (RR.out.stay hb)
            replace RG := Lib.hid (RG.out.stay hb)
            replace S0 := Lib.hid (keep hb S0.out)
            replace S1 := Lib.hid (keep hb S1.out)
            replace B := Lib.hid (below_mid B.out hb)
            replace BL := Lib.hid (below_mid BL.out hb)
            clear hb
            have uS0 := S0.out
            have uS1 := S1.out
            go_wp2_with fail
            clear uS0 uS1
            refine (has_r (show hasB lg k = false from QGk.out) _ _ RG.out).mono ?_
            rintro e x16 ⟨rfl, hb⟩
            replace RL := Lib.hid (RL.out.stay hb)
            replace RA := Lib.hid (RA.out.stay hb)
            replace RR := Lib.hid (RR.out.stay hb)
            replace RG := Lib.hid (RG.out.stay hb)
            replace S0 := Lib.hid (keep hb S0.out)
            replace S1 := Lib.hid (keep hb S1.out)
            replace B := Lib.hid (below_mid B.out hb)
            replace BL := Lib.hid (below_mid BL.out hb)
            clear hb
            have uS0 := S0.out
            have uS1 := S1.out
            go_wp2
            clear uS0 uS1
            go_roundw
            case rel => exact ⟨k + 1, by omega, by go_num, by rw [QSe.out, QSk.out]; rfl, BL.out⟩
            case measure => simp [intOf]; omega
          · skip
            have uS0 := S0.out
            have uS1 := S1.out
            go_wp2_with fail
            clear uS0 uS1
            refine (HL.out _ _ RL.out).mono ?_
            rintro e x13 ⟨rfl, hb⟩
            replace RL := Lib.hid (RL.out.stay hb)
            replace RA := Lib.hid (RA.out.stay hb)
            replace RR := Lib.hid (RR.out.stay hb)
            replace RG := Lib.hid (RG.out.stay hb)
            replace S0 := Lib.hid (keep hb S0.out)
            replace S1 := Lib.hid (keep hb S1.out)
            replace B := Lib.hid (below_mid B.out hb)
            replace BL := Lib.hid (below_mid BL.out hb)
            clear hb
            have uS0 := S0.out
            have uS1 := S1.out
            go_wp2_with fail
            clear uS0 uS1
            refine (has_r (show hasB la k = false from QAk.out) _ _ RA.out).mono ?_
            rintro e x14 ⟨rfl, hb⟩
            replace RL := Lib.hid (RL.out.stay hb)
            replace RA := Lib.hid (RA.out.stay hb)
            replace RR := Lib.hid (RR.out.stay hb)
            replace RG := Lib.hid (RG.out.stay hb)
            replace S0 := Lib.hid (keep hb S0.out)
            replace S1 := Lib.hid (keep hb S1.out)
            replace B := Lib.hid (below_mid B.out hb)
            replace BL := Lib.hid (below_mid BL.out hb)
            clear hb
            have uS0 := S0.out
            have uS1 := S1.out
            go_wp2_with fail
            clear uS0 uS1
            refine (has_r (show hasB lr k = false from QRk.out) _ _ RR.out).mono ?_
            rintro e x15 ⟨rfl, hb⟩
            replace RL := Lib.hid (RL.out.stay hb)
            replace RA := Lib.hid (RA.out.stay hb)
            replace RR := Lib.hid (RR.out.stay hb)
            replace RG := Lib.hid (RG.out.stay hb)
            replace S0 := Lib.hid (keep hb S0.out)
            replace S1 := Lib.hid (keep hb S1.out)
            replace B := Lib.hid (below_mid B.out hb)
            replace BL := Lib.hid (below_mid BL.out hb)
            clear hb
            have uS0 := S0.out
            have uS1 := S1.out
            go_wp2_with fail
            clear uS0 uS1
            refine (has_r (show hasB lg k = false from QGk.out) _ _ RG.out).mono ?_
            rintro e x16 ⟨rfl, hb⟩
            replace RL := Lib.hid (RL.out.stay hb)
            replace RA := Lib.hid (RA.out.stay hb)
            replace RR := Lib.hid (RR.out.stay hb)
            replace RG := Lib.hid (RG.out.stay hb)
            replace S0 := Lib.hid (keep hb S0.out)
            replace S1 := Lib.hid (keep hb S1.out)
            replace B := Lib.hid (below_mid B.out hb)
            replace BL := Lib.hid (below_mid BL.out hb)
            clear hb
            have uS0 := S0.out
            have uS1 := S1.out
            go_wp2
            clear uS0 uS1
            go_roundw
            case rel => exact ⟨k + 1, by omega, by go_num, by rw [QSe.out, QSk.out]; rfl, BL.out⟩
            case measure => simp [intOf]; omega
        · cases all1
          · skip
            have uS0 := S0.out
            have uS1 := S1.out
            go_wp2_with fail
            clear uS0 uS1
            refine (HL.out _ _ RL.out).mono ?_
            rintro e x13 ⟨rfl, hb⟩
            replace RL := Lib.hid (RL.out.stay hb)
            replace RA := Lib.hid (RA.out.stay hb)
            replace RR := Lib.hid (RR.out.stay hb)
            replace RG := Lib.hid (RG.out.stay hb)
            replace S0 := Lib.hid (keep hb S0.out)
            replace S1 := Lib.hid (keep hb S1.out)
            replace B := Lib.hid (below_mid B.out hb)
            replace BL := Lib.hid (below_mid BL.out hb)
            clear hb
            have uS0 := S0.out
            have uS1 := S1.out
            go_wp2_with fail
            clear uS0 uS1
            refine (has_r (show hasB la k = true from QAk.out) _ _ RA.out).mono ?_
            rintro e x14 ⟨rfl, hb⟩
            replace RL := Lib.hid (RL.out.stay hb)
            replace RA := Lib.hid (RA.out.stay hb)
            replace RR := Lib.hid (RR.out.stay hb)
            replace RG := Lib.hid (RG.out.stay hb)
            replace S0 := Lib.hid (keep hb S0.out)
            replace S1 := Lib.hid (keep hb S1.out)
            replace B := Lib.hid (below_mid B.out hb)
            replace BL := Lib.hid (below_mid BL.out hb)
            clear hb
            have uS0 := S0.out
            have uS1 := S1.out
            go_wp2_with fail
            clear uS0 uS1
            refine (has_r (show hasB lr k = true from QRk.out) _ _ RR.out).mono ?_
            rintro e x15 ⟨rfl, hb⟩
            replace RL := Lib.hid (RL.out.stay hb)
            replace RA := Lib.hid (RA.out.stay hb)
            replace RR := Lib.hid (RR.out.stay hb)
            replace RG := Lib.hid (RG.out.stay hb)
            replace S0 := Lib.hid (keep hb S0.out)
            replace S1 := Lib.hid (keep hb S1.out)
            replace B := Lib.hid (below_mid B.out hb)
            replace BL := Lib.hid (below_mid BL.out hb)
            clear hb
            have uS0 := S0.out
            have uS1 := S1.out
            go_wp2_with fail
            clear uS0 uS1
            refine (has_r (show hasB lg k = false from QGk.out) _ _ RG.out).mono ?_
            rintro e x16 ⟨rfl, hb⟩
            replace RL := Lib.hid (RL.out.stay hb)
            replace RA := Lib.hid (RA.out.stay hb)
            replace RR := Lib.hid (RR.out.stay hb)
            replace RG := Lib.hid (RG.out.stay hb)
            replace S0 := Lib.hid (keep hb S0.out)
            replace S1 := Lib.hid (keep hb S1.out)
            replace B := Lib.hid (below_mid B.out hb)
            replace BL := Lib.hid (below_mid BL.out hb)
            clear hb
            have uS0 := S0.out
            have uS1 := S1.out
            go_wp2
            clear uS0 uS1
            go_roundw
            case rel => exact ⟨k + 1, by omega, by go_num, by rw [QSe.out, QSk.out]; rfl, BL.out⟩
            case measure => simp [intOf]; omega
          · skip
            have uS0 := S0.out
            have uS1 := S1.out
            go_wp2_with fail
            clear uS0 uS1
            refine (HL.out _ _ RL.out).mono ?_
            rintro e x13 ⟨rfl, hb⟩
            replace RL := Lib.hid (RL.out.stay hb)
            replace RA := Lib.hid (RA.out.stay hb)
            replace RR := Lib.hid (RR.out.stay hb)
            replace RG := Lib.hid (RG.out.stay hb)
            replace S0 := Lib.hid (keep hb S0.out)
            replace S1 := Lib.hid (keep hb S1.out)
            replace B := Lib.hid (below_mid B.out hb)
            replace BL := Lib.hid (below_mid BL.out hb)
            clear hb
            have uS0 := S0.out
            have uS1 := S1.out
            go_wp2_with fail
            clear uS0 uS1
            refine (has_r (show hasB la k = true from QAk.out) _ _ RA.out).mono ?_
            rintro e x14 ⟨rfl, hb⟩
            replace RL := Lib.hid (RL.out.stay hb)
            replace RA := Lib.hid (RA.out.stay hb)
            replace RR := Lib.hid (RR.out.stay hb)
            replace RG := Lib.hid (RG.out.stay hb)
            replace S0 := Lib.hid (keep hb S0.out)
            replace S1 := Lib.hid (keep hb S1.out)
            replace B := Lib.hid (below_mid B.out hb)
            replace BL := Lib.hid (below_mid BL.out hb)
            clear hb
            have uS0 := S0.out
            have uS1 := S1.out
            go_wp2_with fail
            clear uS0 uS1
            refine (has_r (show hasB lr k = true from QRk.out) _ _ RR.out).mono ?_
            rintro e x15 ⟨rfl, hb⟩
            replace RL := Lib.hid (RL.out.stay hb)
            replace RA := Lib.hid (RA.out.stay hb)
            replace RR := Lib.hid (RR.out.stay hb)
            replace RG := Lib.hid (RG.out.stay hb)
            replace S0 := Lib.hid (keep hb S0.out)
            replace S1 := Lib.hid (keep hb S1.out)
            replace B := Lib.hid (below_mid B.out hb)
            replace BL := Lib.hid (below_mid BL.out hb)
            clear hb
            have uS0 := S0.out
            have uS1 := S1.out
            go_wp2_with fail
            clear uS0 uS1
            refine (has_r (show hasB lg k = false from QGk.out) _ _ RG.out).mono ?_
            rintro e x16 ⟨rfl, hb⟩
            replace RL := Lib.hid (RL.out.stay hb)
            replace RA := Lib.hid (RA.out.stay hb)
            replace RR := Lib.hid (RR.out.stay hb)
            replace RG := Lib.hid (RG.out.stay hb)
            replace S0 := Lib.hid (keep hb S0.out)
            replace S1 := Lib.hid (keep hb S1.out)
            replace B := Lib.hid (below_mid B.out hb)
            replace BL := Lib.hid (below_mid BL.out hb)
            clear hb
            have uS0 := S0.out
            have uS1 := S1.out
            go_wp2
            clear uS0 uS1
            go_roundw
            case rel => exact ⟨k + 1, by omega, by go_num, by rw [QSe.out, QSk.out]; rfl, BL.out⟩
            case measure => simp [intOf]; omega
    · obtain rfl : k = 80 := by omega
      replace RL := Lib.hid (RL.out.stay hb)
      replace RA := Lib.hid (RA.out.stay hb)
      replace RR := Lib.hid (RR.out.stay hb)
      replace RG := Lib.hid (RG.out.stay hb)
      replace S0 := Lib.hid (keep hb S0.out)
      replace S1 := Lib.hid (keep hb S1.out)
      replace B := Lib.hid (below_mid B.out hb)
      clear hb
      generalize allB l ⟨s0, s1⟩ 80 = al at *
      obtain ⟨rfl, hz⟩ := HC.out
      clear HC QA QR QG QS QO
      by_cases h0 : lg.length = 0
      · obtain rfl : lc = true := by rw [← hz]; simp [h0]
        clear hz
        have h1 : ((lg.length : Int) == 0) = true := by simp [h0]
        have uS0 := S0.out
        have uS1 := S1.out
        go_wp2_with fail
        clear uS0 uS1
        refine (MC.out _ _ RL.out).mono ?_
        rintro e x13 ⟨rfl, hb⟩
        replace RL := Lib.hid (RL.out.stay hb)
        replace RA := Lib.hid (RA.out.stay hb)
        replace RR := Lib.hid (RR.out.stay hb)
        replace RG := Lib.hid (RG.out.stay hb)
        replace S0 := Lib.hid (keep hb S0.out)
        replace S1 := Lib.hid (keep hb S1.out)
        replace B := Lib.hid (below_mid B.out hb)
        clear hb
        have uS0 := S0.out
        have uS1 := S1.out
        go_wp2
        clear uS0 uS1
        go_ret
        exact ⟨rfl, B.out⟩
      · obtain rfl : lc = false := by rw [← hz]; simp [h0]
        clear hz
        have h1 : ((lg.length : Int) == 0) = false := by rw [beq_eq_false_iff_ne]; omega
        have uS0 := S0.out
        have uS1 := S1.out
        go_wp2_with fail
        clear uS0 uS1
        refine (MC.out _ _ RL.out).mono ?_
        rintro e x13 ⟨rfl, hb⟩
        replace RL := Lib.hid (RL.out.stay hb)
        replace RA := Lib.hid (RA.out.stay hb)
        replace RR := Lib.hid (RR.out.stay hb)
        replace RG := Lib.hid (RG.out.stay hb)
        replace S0 := Lib.hid (keep hb S0.out)
        replace S1 := Lib.hid (keep hb S1.out)
        replace B := Lib.hid (below_mid B.out hb)
        clear hb
        have uS0 := S0.out
        have uS1 := S1.out
        go_wp2
        clear uS0 uS1
        go_ret
        exact ⟨rfl, B.out⟩

end Go.Proofs.Ythkkhgfdppbphaa
