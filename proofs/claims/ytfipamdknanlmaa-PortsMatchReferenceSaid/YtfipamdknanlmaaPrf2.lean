/- The reference of chapter 23: Lookup. Printed by wip/tools/gen23s.py. -/
import Derived.Test.YtfipamdknanlmaaPrf1
namespace Go.Proofs.Ytfipamdknanlmaa
open Go.RowKit Go.Sort
set_option linter.unusedVariables false
variable {w0 w : World} {D : Nat → Prop} {L : List Res} {q : Nat} {st : PSt}

theorem find_take {α : Type} {p : α → Bool} {l : List α} {k : Nat} (hk : k < l.length) (h : (l.take k).find? p = none) : (l.take (k + 1)).find? p = if p l[k] then some l[k] else none := by
  rw [List.take_succ_eq_append_getElem hk, List.find?_append, h]; simp [List.find?]; split <;> simp_all
theorem find_no {α : Type} {p : α → Bool} {l : List α} {k : Nat} (hk : k < l.length) (h : (l.take k).find? p = none) (h2 : p l[k] = false) : (l.take (k + 1)).find? p = none := by
  rw [find_take hk h, h2]; rfl
theorem find_hit {α : Type} {p : α → Bool} {l : List α} {k : Nat} (hk : k < l.length) (h : (l.take k).find? p = none) (h2 : p l[k] = true) : l.find? p = some l[k] := by
  have h3 := find_take hk h
  rw [h2, if_pos rfl] at h3
  have e : l.find? p = (l.take (k + 1) ++ l.drop (k + 1)).find? p := by rw [List.take_append_drop]
  rw [e, List.find?_append, h3]; rfl
def pJ (po th tp : Int) (x : Ck × Int) : Bool := x.1.po == po && x.1.th == th && x.1.tp == tp
def pB (st : PSt) (pr po : Int) (x : Bk × Int) : Bool := x.1.pr == pr && x.1.po == po && aloneF st x.2
def rlook2 (st : PSt) (pr po : Int) : Int × Bool := match st.B.find? (pB st pr po) with
  | some x => (x.2, true)
  | none => (0, false)
def rlookF (st : PSt) (pr po th tp : Int) : Int × Bool := match (if pr = 6 then st.J.find? (pJ po th tp) else none) with
  | some x => (x.2, true)
  | none => rlook2 st pr po
theorem rlookF_hit {st : PSt} {pr po th tp : Int} {x : Ck × Int} (h6 : pr = 6) (h : st.J.find? (pJ po th tp) = some x) : rlookF st pr po th tp = (x.2, true) := by unfold rlookF; rw [if_pos h6, h]
theorem rlookF_6 {st : PSt} {pr po th tp : Int} (h : st.J.find? (pJ po th tp) = none) : rlookF st pr po th tp = rlook2 st pr po := by
  unfold rlookF
  by_cases h6 : pr = 6
  · rw [if_pos h6, h]
  · rw [if_neg h6]
theorem rlookF_n {st : PSt} {pr po th tp : Int} (h6 : ¬ pr = 6) : rlookF st pr po th tp = rlook2 st pr po := by unfold rlookF; rw [if_neg h6]
theorem rlook2_hit {st : PSt} {pr po : Int} {x : Bk × Int} (h : st.B.find? (pB st pr po) = some x) : rlook2 st pr po = (x.2, true) := by unfold rlook2; rw [h]
theorem rlook2_no {st : PSt} {pr po : Int} (h : st.B.find? (pB st pr po) = none) : rlook2 st pr po = (0, false) := by unfold rlook2; rw [h]
theorem ret_pr {a a' : Int} {b b' : Bool} {r : Int × Bool} (h : r = (a', b')) (h1 : a = a') (h2 : b = b') : Ending.returned (.tuple #[.int .i64 a, .bool b]) = .returned (.tuple #[.int .i64 r.1, .bool r.2]) := by rw [h, h1, h2]
theorem alone_r {s : Int} {b : Bool} (hb : aloneF st s = b) (h : RdQ w q st) (hl : st.J.length ≤ 1000000) :
    Calls Try.prog 29 #[.pointer (some ⟨q, 0, none⟩), .int .i64 s] w fun e w' => e = .returned (.bool b) ∧ w = w' := hb ▸ alone_any s h hl

set_option maxRecDepth 100000 in
set_option maxHeartbeats 4000000 in
theorem rlookup_any (pr po th tp : Int) (h : RdQ w q st) (hl1 : st.B.length ≤ 1000000) (hl2 : st.J.length ≤ 1000000) :
    Calls Try.prog 17 #[.pointer (some ⟨q, 0, none⟩), .int .i64 pr, .int .i64 po, .int .i64 th, .int .i64 tp] w fun e w' => e = .returned (.tuple #[.int .i64 (rlookF st pr po th tp).1, .bool (rlookF st pr po th tp).2]) ∧ w = w' := by
  have HRD := Lib.hid h
  have HL2 := Lib.hid hl2
  obtain ⟨vB, vJ, hq, hB, hJ⟩ := h
  obtain ⟨a, cap, rfl, hcell⟩ := row_at (c := cJd) (fun x => rfl) hJ rfl
  obtain ⟨a2, cap2, rfl, hcell2⟩ := row_at (c := cBd) (fun x => rfl) hB rfl
  have c0 : w.cell? ⟨q, 0, none⟩ = some (.slice a2 st.B.length cap2) := blk_cell hq 0
  have c1 : w.cell? ⟨q, 1, none⟩ = some (.slice a st.J.length cap) := blk_cell hq 1
  obtain ⟨J, hJe⟩ : ∃ J, st.J = J := ⟨_, rfl⟩
  obtain ⟨B, hBe⟩ : ∃ B, st.B = B := ⟨_, rfl⟩
  rw [hJe] at hcell hl2 c1
  rw [hBe] at hcell2 hl1 c0
  have HJe := Lib.hid hJe
  have HBe := Lib.hid hBe
  have HC := Lib.hid hcell
  have HC2 := Lib.hid hcell2
  clear hcell hcell2 hq hB hJ hJe hBe
  have n0 : (none : Option (Ck × Int)) = none := rfl
  by_cases h6 : pr = 6
  · subst h6
    go_enter Try.func17, Try.ntmps17
    go_wp2
    go_loop [12] (fun i => ∃ k : Nat, k ≤ J.length ∧ i = .int .i64 k ∧ (J.take k).find? (pJ po th tp) = none) (fun i => J.length - (intOf i).toNat)
    case atStart => exact ⟨0, Nat.zero_le _, rfl, rfl⟩
    case round =>
      obtain ⟨k, hk, rfl, hnone⟩ := hrel
      have HN := Lib.hid hnone
      clear hnone
      by_cases hlt : k < J.length
      · obtain ⟨g, rfl, hcc⟩ := HC.out (by omega)
        have d0 : w.cell? ⟨g, k * 4, none⟩ = some (.int .i64 J[k].2) := hcc k hlt 0 (by decide)
        have d1 : w.cell? ⟨g, k * 4 + 1, none⟩ = some (.int .i64 J[k].1.po) := hcc k hlt 1 (by decide)
        have d2 : w.cell? ⟨g, k * 4 + 2, none⟩ = some (.int .i64 J[k].1.th) := hcc k hlt 2 (by decide)
        have d3 : w.cell? ⟨g, k * 4 + 3, none⟩ = some (.int .i64 J[k].1.tp) := hcc k hlt 3 (by decide)
        have HT := Lib.hid (show (J[k].1.po == po && J[k].1.th == th && J[k].1.tp == tp) = false → (J.take (k + 1)).find? (pJ po th tp) = none from find_no (p := pJ po th tp) hlt HN.out)
        have HY := Lib.hid (show (J[k].1.po == po && J[k].1.th == th && J[k].1.tp == tp) = true → rlookF st 6 po th tp = (J[k].2, true) from fun h => rlookF_hit rfl (by rw [HJe.out]; exact find_hit (p := pJ po th tp) hlt HN.out h))
        obtain ⟨y0, hy0⟩ : ∃ y, J[k].2 = y := ⟨_, rfl⟩
        obtain ⟨y1, hy1⟩ : ∃ y, J[k].1.po = y := ⟨_, rfl⟩
        obtain ⟨y2, hy2⟩ : ∃ y, J[k].1.th = y := ⟨_, rfl⟩
        obtain ⟨y3, hy3⟩ : ∃ y, J[k].1.tp = y := ⟨_, rfl⟩
        simp only [hy0, hy1, hy2, hy3] at HT HY d0 d1 d2 d3
        clear hcc hy0 hy1 hy2 hy3
        cases e1 : (y1 == po) with
        | false =>
          have HT2 := Lib.hid (HT.out (by simp [e1]))
          clear HT HY
          go_wp2
          go_round
          case rel => exact ⟨k + 1, by omega, by go_num, HT2.out⟩
          case measure => simp [intOf]; omega
        | true =>
          cases e2 : (y2 == th) with
          | false =>
            have HT2 := Lib.hid (HT.out (by simp [e2]))
            clear HT HY
            go_wp2
            go_round
            case rel => exact ⟨k + 1, by omega, by go_num, HT2.out⟩
            case measure => simp [intOf]; omega
          | true =>
            cases e3 : (y3 == tp) with
            | false =>
              have HT2 := Lib.hid (HT.out (by simp [e3]))
              clear HT HY
              go_wp2
              go_round
              case rel => exact ⟨k + 1, by omega, by go_num, HT2.out⟩
              case measure => simp [intOf]; omega
            | true =>
              have HR := Lib.hid (HY.out (by simp [e1, e2, e3]))
              clear HT HY
              go_wp2
              go_ret2
              exact ⟨ret_pr HR.out rfl rfl, rfl⟩
      · obtain rfl : k = J.length := by omega
        have HK := Lib.hid (show rlookF st 6 po th tp = rlook2 st 6 po from rlookF_6 (by rw [HJe.out, ← HN.out, List.take_length]))
        clear HN
        go_wp2
        go_loop [13] (fun i => ∃ k : Nat, k ≤ B.length ∧ i = .int .i64 k ∧ (B.take k).find? (pB st 6 po) = none) (fun i => B.length - (intOf i).toNat)
        case atStart => exact ⟨0, Nat.zero_le _, rfl, rfl⟩
        case round =>
          obtain ⟨k, hk, rfl, hnone⟩ := hrel
          have HN := Lib.hid hnone
          clear hnone
          by_cases hlt : k < B.length
          · obtain ⟨g, rfl, hcc⟩ := HC2.out (by omega)
            have d0 : w.cell? ⟨g, k * 3, none⟩ = some (.int .i64 B[k].1.pr) := hcc k hlt 0 (by decide)
            have d1 : w.cell? ⟨g, k * 3 + 1, none⟩ = some (.int .i64 B[k].1.po) := hcc k hlt 1 (by decide)
            have d2 : w.cell? ⟨g, k * 3 + 2, none⟩ = some (.int .i64 B[k].2) := hcc k hlt 2 (by decide)
            have HT := Lib.hid (show (B[k].1.pr == 6 && B[k].1.po == po && aloneF st B[k].2) = false → (B.take (k + 1)).find? (pB st 6 po) = none from find_no (p := pB st 6 po) hlt HN.out)
            have HY := Lib.hid (show (B[k].1.pr == 6 && B[k].1.po == po && aloneF st B[k].2) = true → rlookF st 6 po th tp = (B[k].2, true) from fun h => HK.out.trans (rlook2_hit (by rw [HBe.out]; exact find_hit (p := pB st 6 po) hlt HN.out h)))
            obtain ⟨y0, hy0⟩ : ∃ y, B[k].1.pr = y := ⟨_, rfl⟩
            obtain ⟨y1, hy1⟩ : ∃ y, B[k].1.po = y := ⟨_, rfl⟩
            obtain ⟨y2, hy2⟩ : ∃ y, B[k].2 = y := ⟨_, rfl⟩
            simp only [hy0, hy1, hy2] at HT HY d0 d1 d2
            clear hcc hy0 hy1 hy2
            cases e0 : (y0 == 6) with
            | false =>
              have HT2 := Lib.hid (HT.out (by simp [e0]))
              clear HT HY
              go_wp2
              go_round
              case rel => exact ⟨k + 1, by omega, by go_num, HT2.out⟩
              case measure => simp [intOf]; omega
            | true =>
              cases e1 : (y1 == po) with
              | false =>
                have HT2 := Lib.hid (HT.out (by simp [e1]))
                clear HT HY
                go_wp2
                go_round
                case rel => exact ⟨k + 1, by omega, by go_num, HT2.out⟩
                case measure => simp [intOf]; omega
              | true =>
                cases e2 : aloneF st y2 with
                | false =>
                  have HT2 := Lib.hid (HT.out (by simp [e2]))
                  clear HT HY
                  have HAL := Lib.hid (alone_r e2 HRD.out HL2.out)
                  clear e2
                  go_wp2_with fail
                  refine HAL.out.mono ?_
                  rintro e w' ⟨rfl, rfl⟩
                  go_wp2
                  go_round
                  case rel => exact ⟨k + 1, by omega, by go_num, HT2.out⟩
                  case measure => simp [intOf]; omega
                | true =>
                  have HR := Lib.hid (HY.out (by simp [e0, e1, e2]))
                  have HAL := Lib.hid (alone_r e2 HRD.out HL2.out)
                  clear e2 HT HY
                  go_wp2_with fail
                  refine HAL.out.mono ?_
                  rintro e w' ⟨rfl, rfl⟩
                  go_wp2
                  go_ret2
                  exact ⟨ret_pr HR.out rfl rfl, rfl⟩
          · obtain rfl : k = B.length := by omega
            have HZ := Lib.hid (HK.out.trans (rlook2_no (by rw [HBe.out, ← HN.out, List.take_length])))
            clear HN
            go_wp2
            go_ret2
            exact ⟨ret_pr HZ.out rfl rfl, rfl⟩
  · have HK := Lib.hid (rlookF_n (st := st) (po := po) (th := th) (tp := tp) h6)
    have e6 : (pr == 6) = false := by simpa using h6
    clear h6
    go_enter Try.func17, Try.ntmps17
    go_wp2
    go_loop [12] (fun i => i = .int .i64 0) (fun i => 0)
    case atStart => rfl
    case round =>
      subst hrel
      by_cases hp : 0 < J.length
      · go_wp2
        go_loop [13] (fun i => ∃ k : Nat, k ≤ B.length ∧ i = .int .i64 k ∧ (B.take k).find? (pB st pr po) = none) (fun i => B.length - (intOf i).toNat)
        case atStart => exact ⟨0, Nat.zero_le _, rfl, rfl⟩
        case round =>
          obtain ⟨k, hk, rfl, hnone⟩ := hrel
          have HN := Lib.hid hnone
          clear hnone
          by_cases hlt : k < B.length
          · obtain ⟨g, rfl, hcc⟩ := HC2.out (by omega)
            have d0 : w.cell? ⟨g, k * 3, none⟩ = some (.int .i64 B[k].1.pr) := hcc k hlt 0 (by decide)
            have d1 : w.cell? ⟨g, k * 3 + 1, none⟩ = some (.int .i64 B[k].1.po) := hcc k hlt 1 (by decide)
            have d2 : w.cell? ⟨g, k * 3 + 2, none⟩ = some (.int .i64 B[k].2) := hcc k hlt 2 (by decide)
            have HT := Lib.hid (show (B[k].1.pr == pr && B[k].1.po == po && aloneF st B[k].2) = false → (B.take (k + 1)).find? (pB st pr po) = none from find_no (p := pB st pr po) hlt HN.out)
            have HY := Lib.hid (show (B[k].1.pr == pr && B[k].1.po == po && aloneF st B[k].2) = true → rlookF st pr po th tp = (B[k].2, true) from fun h => HK.out.trans (rlook2_hit (by rw [HBe.out]; exact find_hit (p := pB st pr po) hlt HN.out h)))
            obtain ⟨y0, hy0⟩ : ∃ y, B[k].1.pr = y := ⟨_, rfl⟩
            obtain ⟨y1, hy1⟩ : ∃ y, B[k].1.po = y := ⟨_, rfl⟩
            obtain ⟨y2, hy2⟩ : ∃ y, B[k].2 = y := ⟨_, rfl⟩
            simp only [hy0, hy1, hy2] at HT HY d0 d1 d2
            clear hcc hy0 hy1 hy2
            cases e0 : (y0 == pr) with
            | false =>
              have HT2 := Lib.hid (HT.out (by simp [e0]))
              clear HT HY
              go_wp2
              go_round
              case rel => exact ⟨k + 1, by omega, by go_num, HT2.out⟩
              case measure => simp [intOf]; omega
            | true =>
              cases e1 : (y1 == po) with
              | false =>
                have HT2 := Lib.hid (HT.out (by simp [e1]))
                clear HT HY
                go_wp2
                go_round
                case rel => exact ⟨k + 1, by omega, by go_num, HT2.out⟩
                case measure => simp [intOf]; omega
              | true =>
                cases e2 : aloneF st y2 with
                | false =>
                  have HT2 := Lib.hid (HT.out (by simp [e2]))
                  clear HT HY
                  have HAL := Lib.hid (alone_r e2 HRD.out HL2.out)
                  clear e2
                  go_wp2_with fail
                  refine HAL.out.mono ?_
                  rintro e w' ⟨rfl, rfl⟩
                  go_wp2
                  go_round
                  case rel => exact ⟨k + 1, by omega, by go_num, HT2.out⟩
                  case measure => simp [intOf]; omega
                | true =>
                  have HR := Lib.hid (HY.out (by simp [e0, e1, e2]))
                  have HAL := Lib.hid (alone_r e2 HRD.out HL2.out)
                  clear e2 HT HY
                  go_wp2_with fail
                  refine HAL.out.mono ?_
                  rintro e w' ⟨rfl, rfl⟩
                  go_wp2
                  go_ret2
                  exact ⟨ret_pr HR.out rfl rfl, rfl⟩
          · obtain rfl : k = B.length := by omega
            have HZ := Lib.hid (HK.out.trans (rlook2_no (by rw [HBe.out, ← HN.out, List.take_length])))
            clear HN
            go_wp2
            go_ret2
            exact ⟨ret_pr HZ.out rfl rfl, rfl⟩
      · go_wp2
        go_loop [13] (fun i => ∃ k : Nat, k ≤ B.length ∧ i = .int .i64 k ∧ (B.take k).find? (pB st pr po) = none) (fun i => B.length - (intOf i).toNat)
        case atStart => exact ⟨0, Nat.zero_le _, rfl, rfl⟩
        case round =>
          obtain ⟨k, hk, rfl, hnone⟩ := hrel
          have HN := Lib.hid hnone
          clear hnone
          by_cases hlt : k < B.length
          · obtain ⟨g, rfl, hcc⟩ := HC2.out (by omega)
            have d0 : w.cell? ⟨g, k * 3, none⟩ = some (.int .i64 B[k].1.pr) := hcc k hlt 0 (by decide)
            have d1 : w.cell? ⟨g, k * 3 + 1, none⟩ = some (.int .i64 B[k].1.po) := hcc k hlt 1 (by decide)
            have d2 : w.cell? ⟨g, k * 3 + 2, none⟩ = some (.int .i64 B[k].2) := hcc k hlt 2 (by decide)
            have HT := Lib.hid (show (B[k].1.pr == pr && B[k].1.po == po && aloneF st B[k].2) = false → (B.take (k + 1)).find? (pB st pr po) = none from find_no (p := pB st pr po) hlt HN.out)
            have HY := Lib.hid (show (B[k].1.pr == pr && B[k].1.po == po && aloneF st B[k].2) = true → rlookF st pr po th tp = (B[k].2, true) from fun h => HK.out.trans (rlook2_hit (by rw [HBe.out]; exact find_hit (p := pB st pr po) hlt HN.out h)))
            obtain ⟨y0, hy0⟩ : ∃ y, B[k].1.pr = y := ⟨_, rfl⟩
            obtain ⟨y1, hy1⟩ : ∃ y, B[k].1.po = y := ⟨_, rfl⟩
            obtain ⟨y2, hy2⟩ : ∃ y, B[k].2 = y := ⟨_, rfl⟩
            simp only [hy0, hy1, hy2] at HT HY d0 d1 d2
            clear hcc hy0 hy1 hy2
            cases e0 : (y0 == pr) with
            | false =>
              have HT2 := Lib.hid (HT.out (by simp [e0]))
              clear HT HY
              go_wp2
              go_round
              case rel => exact ⟨k + 1, by omega, by go_num, HT2.out⟩
              case measure => simp [intOf]; omega
            | true =>
              cases e1 : (y1 == po) with
              | false =>
                have HT2 := Lib.hid (HT.out (by simp [e1]))
                clear HT HY
                go_wp2
                go_round
                case rel => exact ⟨k + 1, by omega, by go_num, HT2.out⟩
                case measure => simp [intOf]; omega
              | true =>
                cases e2 : aloneF st y2 with
                | false =>
                  have HT2 := Lib.hid (HT.out (by simp [e2]))
                  clear HT HY
                  have HAL := Lib.hid (alone_r e2 HRD.out HL2.out)
                  clear e2
                  go_wp2_with fail
                  refine HAL.out.mono ?_
                  rintro e w' ⟨rfl, rfl⟩
                  go_wp2
                  go_round
                  case rel => exact ⟨k + 1, by omega, by go_num, HT2.out⟩
                  case measure => simp [intOf]; omega
                | true =>
                  have HR := Lib.hid (HY.out (by simp [e0, e1, e2]))
                  have HAL := Lib.hid (alone_r e2 HRD.out HL2.out)
                  clear e2 HT HY
                  go_wp2_with fail
                  refine HAL.out.mono ?_
                  rintro e w' ⟨rfl, rfl⟩
                  go_wp2
                  go_ret2
                  exact ⟨ret_pr HR.out rfl rfl, rfl⟩
          · obtain rfl : k = B.length := by omega
            have HZ := Lib.hid (HK.out.trans (rlook2_no (by rw [HBe.out, ← HN.out, List.take_length])))
            clear HN
            go_wp2
            go_ret2
            exact ⟨ret_pr HZ.out rfl rfl, rfl⟩

end Go.Proofs.Ytfipamdknanlmaa
