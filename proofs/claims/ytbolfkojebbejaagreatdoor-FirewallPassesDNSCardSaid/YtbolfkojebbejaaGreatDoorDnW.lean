/- The walk of FirewallPassesDNS. Printed by wip/tools/gen21l.py. -/
import Derived.Test.YtbolfkojebbejaaGreatDoorDnZ
import Derived.Test.YtbolfkojebbejaaGreatDoorRnw
namespace Go.Proofs.YtbolfkojebbejaaGreatDoor
open Go.RowKit Go.Sort
set_option linter.unusedVariables false
set_option maxRecDepth 100000
attribute [local go_sem] Oper.semAt_some

theorem run_bs3I (a b c : Int) (w : World) : (Instr.buildSlice 30 3 #[(0, .int .i64 a), (1, .int .i64 b), (2, .int .i64 c)]).run Tryz.prog w = .ok (.slice (some ⟨w.heap.size, 0, none⟩) 3 3) (w.alloc (.cells #[.int .i64 a, .int .i64 b, .int .i64 c] 3)) := by kernel_rfl
theorem run_bdFw (p s : Int) (w : World) : (Instr.build 39 #[(0, .int .i64 17), (1, .int .i64 9), (2, .int .i64 p), (3, .int .i64 s), (4, .int .i64 53)]).run Tryz.prog w = .ok (.agg #[.int .i64 17, .int .i64 9, .int .i64 p, .int .i64 s, .int .i64 53, .bool false, .bool false, .bool false, .int .i64 0]) w := by kernel_rfl
theorem dn_sw (j : Nat) : ∃ r : Int, (dnSv j - 4).tmod 3 = r ∧ (0 ≤ r ∧ r ≤ 2) ∧ 5 + r ≠ dnSv j := by
  have h : dnSv j = 5 ∨ dnSv j = 6 ∨ dnSv j = 7 := by unfold dnSv; omega
  rcases h with h | h | h
  · exact ⟨1, by rw [h]; decide, by decide, by rw [h]; decide⟩
  · exact ⟨2, by rw [h]; decide, by decide, by rw [h]; decide⟩
  · exact ⟨0, by rw [h]; decide, by decide, by rw [h]; decide⟩
theorem sv3_bd : ∀ j (hj : j < ([5, 6, 7] : List Int).length), 1 ≤ ([5, 6, 7] : List Int)[j] ∧ ([5, 6, 7] : List Int)[j] < 4294967295 := by decide
theorem sv3_ne : ∀ j k (hj : j < ([5, 6, 7] : List Int).length) (hk : k < ([5, 6, 7] : List Int).length), j < k → ([5, 6, 7] : List Int)[j] ≠ ([5, 6, 7] : List Int)[k] := by
  intro j k hj hk h
  have hj' : j < 3 := hj
  have hk' : k < 3 := hk
  obtain ⟨rfl, rfl⟩ | ⟨rfl, rfl⟩ | ⟨rfl, rfl⟩ : (j = 0 ∧ k = 1) ∨ (j = 0 ∧ k = 2) ∨ (j = 1 ∧ k = 2) := by omega
  · show (5 : Int) ≠ 6; decide
  · show (5 : Int) ≠ 7; decide
  · show (6 : Int) ≠ 7; decide
/-- What holds when the loop comes to time t. -/
def dnPh (sd : Int) (b t : Nat) (z : Rz) (q : List Qy) (st : FSt) : Prop :=
  (t = 0 ∧ z = dnZ sd b 0 ∧ q = [dnQ sd 0] ∧ st = dnF sd 0) ∨ (∃ j, j ≤ 8 ∧ 10 * j < t ∧ t ≤ 10 * j + 10 ∧ z = dnZ sd b j ∧ st = dnF sd (j + 1)) ∨ (90 < t ∧ z = dnE sd ∧ st = dnF sd 9)
/-- What holds ahead of the inner loop. -/
def dnMid (sd : Int) (b t : Nat) (z : Rz) (q : List Qy) (st : FSt) : Prop :=
  (∃ j, j ≤ 8 ∧ t = 10 * j ∧ z = dnZ sd b j ∧ q = [dnQ sd j] ∧ st = dnF sd j) ∨ (q = [] ∧ dnPh sd b (t + 1) z [] st)
theorem dn_step {sd : Int} {b t : Nat} {z : Rz} {q : List Qy} {st : FSt} (h : dnPh sd b t z q st) (h0 : 0 < t) : dnMid sd b t (tickZ t z).1 (tickZ t z).2 st := by
  rcases h with ⟨rfl, _⟩ | ⟨j, hj, h1, h2, rfl, rfl⟩ | ⟨h1, rfl, rfl⟩
  · omega
  · by_cases e : t = 10 * j + 10
    · by_cases e8 : j = 8
      · subst e8
        rw [dn_tick_end (by omega)]
        exact .inr ⟨rfl, .inr (.inr ⟨by omega, rfl, rfl⟩)⟩
      · rw [dn_tick_yes (by omega) (by omega)]
        exact .inl ⟨j + 1, by omega, by omega, rfl, rfl, rfl⟩
    · rw [dn_tick_no (by omega)]
      exact .inr ⟨rfl, .inr (.inl ⟨j, hj, by omega, by omega, rfl, rfl⟩)⟩
  · rw [dn_tick_E]
    exact .inr ⟨rfl, .inr (.inr ⟨by omega, rfl, rfl⟩)⟩
theorem dn_after {sd : Int} {b j : Nat} {q : List Qy} (hj : j ≤ 8) : dnPh sd b (10 * j + 1) (dnZ sd b j) q (dnF sd (j + 1)) := .inr (.inl ⟨j, hj, by omega, by omega, rfl, rfl⟩)
theorem dn_zi {sd : Int} {b t : Nat} {z : Rz} {q : List Qy} {st : FSt} (h : dnPh sd b t z q st) (s0 : 0 ≤ sd) (s1 : sd ≤ 4294967295) (ht : t ≤ 200) : ZI z ∧ z.wl.length ≤ 8 ∧ z.qn + z.wl.length ≤ 100000 ∧ z.dn.length + z.wl.length ≤ 900 ∧ ∀ p ∈ z.wl, 0 ≤ p.2.se ∧ p.2.se ≤ (t : Int) := by
  have key : ∀ j, j ≤ 8 → 10 * j ≤ t → ZI (dnZ sd b j) ∧ (dnZ sd b j).wl.length ≤ 8 ∧ (dnZ sd b j).qn + (dnZ sd b j).wl.length ≤ 100000 ∧ (dnZ sd b j).dn.length + (dnZ sd b j).wl.length ≤ 900 ∧ ∀ p ∈ (dnZ sd b j).wl, 0 ≤ p.2.se ∧ p.2.se ≤ (t : Int) := fun j hj hjt => by
    refine ⟨dnZ_ok s0 s1 hj, by show 1 ≤ 8; decide, by show (j : Int) + 1 + 1 ≤ 100000; omega, by show 0 + 1 ≤ 900; decide, fun p hp => ?_⟩
    obtain rfl := List.mem_singleton.1 hp
    exact ⟨by show 0 ≤ 10 * (j : Int); omega, by show 10 * (j : Int) ≤ t; omega⟩
  rcases h with ⟨rfl, rfl, _⟩ | ⟨j, hj, h1, h2, rfl, rfl⟩ | ⟨h1, rfl, rfl⟩
  · exact key 0 (by omega) (by omega)
  · exact key j hj (by omega)
  · exact ⟨dnE_ok s0 s1, by show 0 ≤ 8; decide, by show (9 : Int) + 0 ≤ 100000; decide, by show 1 + 0 ≤ 900; decide, fun p hp => (by cases hp)⟩
theorem dn_len {sd : Int} {b t : Nat} {z : Rz} {q : List Qy} {st : FSt} (h : dnPh sd b t z q st) (h0 : 0 < t) : ∃ k, 1 ≤ k ∧ k ≤ 9 ∧ st = dnF sd k := by
  rcases h with ⟨rfl, _⟩ | ⟨j, hj, h1, h2, rfl, rfl⟩ | ⟨h1, rfl, rfl⟩
  · omega
  · exact ⟨j + 1, by omega, by omega, rfl⟩
  · exact ⟨9, by omega, by omega, rfl⟩
set_option maxRecDepth 100000 in
set_option maxHeartbeats 16000000 in
theorem passesDNS_w (seed n : Int) (w : World) (hs : i64B seed) (hn : i64B n) (g : Glo) (hO : Own w glD w [glR g]) (k1 : w.heap[errG]? = some g.o1) (k2 : w.heap[ertG]? = some g.o2) :
    Calls Tryz.prog 3 #[.int .i64 seed, .int .i64 n] w fun e w' => e = .returned (.bool true) ∧ Below w.heap.size w w' := by
  have HK := Lib.hid (And.intro k1 k2)
  obtain ⟨sd, hsd⟩ : ∃ sd, pk seed 4294967295 = sd := ⟨_, rfl⟩
  obtain ⟨mx, hmx⟩ : ∃ mx, pk n 100 = mx := ⟨_, rfl⟩
  have HP1 := Lib.hid (fun w => hsd ▸ pick_b seed 4294967295 w hs (by decide))
  have HP2 := Lib.hid (fun w => hmx ▸ pick_b n 100 w hn (by decide))
  have HS := Lib.hid (show 0 ≤ sd ∧ sd ≤ 4294967295 by rw [← hsd]; have := pk_bd seed 4294967295 (by decide); omega)
  have HX := Lib.hid (show 0 ≤ mx ∧ mx < 100 by rw [← hmx]; have := pk_bd n 100 (by decide); omega)
  have HO := Lib.hid hO
  have rb := run_bs3I
  clear hsd hmx hs hn hO k1 k2
  go_enter Tryz.func3, Tryz.ntmps3
  go_wp2_with fail
  refine (o_still HO.out (sane_any _)).mono ?_
  rintro e x1 ⟨rfl, hO, -⟩
  replace HO := Lib.hid (show Own w glD x1 [glR g] from hO)
  clear hO
  replace HO := Lib.hid (HO.out.rowNew 115 7)
  go_wp2_with fail
  refine (new_ok (l := []) HO.out 1 rfl (Nat.zero_le _) rfl).mono ?_
  rintro e x2 ⟨f, rfl, hO, -⟩
  replace HO := Lib.hid (show Own w glD x2 [glR g, rowRl (.slice none 0 0) [], resF f (dnF sd 0)] from hO)
  clear hO
  obtain ⟨x3, hx3⟩ : ∃ y, x2.alloc (.cells #[.int .i64 5, .int .i64 6, .int .i64 7] 3) = y := ⟨_, rfl⟩
  obtain ⟨bs, hbs⟩ : ∃ y, x2.heap.size = y := ⟨_, rfl⟩
  have hO := HO.out.alloc (.cells #[.int .i64 5, .int .i64 6, .int .i64 7] 3)
  rw [hx3, hbs] at hO
  replace HO := Lib.hid (show Own w glD x3 [glR g, rowRl (.slice none 0 0) [], resF f (dnF sd 0), blkR bs (.cells #[.int .i64 5, .int .i64 6, .int .i64 7] 3)] from hO)
  clear hO
  have hQ := HO.out.toRowQ 3 3 1 rfl rfl (by decide)
  replace HO := Lib.hid (show Own w glD x3 [glR g, rowRl (.slice none 0 0) [], resF f (dnF sd 0), rowVs (.slice (some ⟨bs, 0, none⟩) 3 3) [5, 6, 7]] from hQ)
  clear hQ
  go_wp2_with fail
  refine (o_still HO.out (HP1.out _)).mono ?_
  rintro e x4 ⟨rfl, hO, -⟩
  replace HO := Lib.hid (show Own w glD x4 [glR g, rowRl (.slice none 0 0) [], resF f (dnF sd 0), rowVs (.slice (some ⟨bs, 0, none⟩) 3 3) [5, 6, 7]] from hO)
  clear hO
  clear hx3 hbs
  go_wp2_with fail
  refine (rnew_o (xs := [5, 6, 7]) (n := 3) HO.out 3 rfl rfl (by decide) sv3_bd sv3_ne HS.out.1 HS.out.2).mono ?_
  rintro e x5 ⟨a, rfl, hO, -⟩
  replace hO := newZ hO
  replace HO := Lib.hid (show Own w glD x5 [resF f (dnF sd 0), resZ a (dn0 sd), glR g] from Own.toEnd hO 5 [2, 4, 0] rfl rfl)
  clear hO rb
  go_wp2_with fail
  refine (o_frame (A := [resF f (dnF sd 0)]) (B := [resZ a (dn0 sd), glR g]) (Q := fun e B' => ∃ b u, e = .returned (.tuple #[.int .i64 1, u, .int .i64 0]) ∧ B' = [resZ a (dnZ sd b 0), glR g, rowQs u [dnQ sd 0]]) HO.out (fun D' hD => (resolve_z (now := 0) hD (dn0_ok HS.out.1 HS.out.2) abN_ok (show (0 : Nat) < 8 by decide) (show (0 : Int) ≤ 100000 by decide) (show (0 : Int) ≤ 0 by decide) (show (0 : Int) ≤ 100000 by decide)).mono fun e w' ⟨b, u, h1, h2, h3⟩ => ⟨_, ⟨b, u, h1, rfl⟩, by rw [dn_start trivial] at h2; exact h2, h3⟩)).mono ?_
  rintro e x6 ⟨B', ⟨b, u, rfl, rfl⟩, hO, -⟩
  replace HO := Lib.hid (show Own w glD x6 [resF f (dnF sd 0), resZ a (dnZ sd b 0), glR g, rowQs u [dnQ sd 0]] from hO)
  obtain ⟨ua, uc, rfl⟩ := row_shape (HO.out.row 3 rfl)
  clear hO
  have hlen1 : ((([dnQ sd 0] : List Qy).length : Nat) : Int) = 1 := rfl
  go_wp2
  clear hlen1
  go_loopw [11, 13] (fun qv nv wr => ∃ (t : Nat) (z : Rz) (q : List Qy) (st : FSt), nv = .int .i64 t ∧ t ≤ 101 ∧ dnPh sd b t z q st ∧ Own w glD wr [resF f st, resZ a z, glR g, rowQs qv q]) (fun _ nv _ => 200 - (intOf nv).toNat)
  case atStart => exact ⟨0, _, _, _, rfl, by omega, .inl ⟨rfl, rfl, rfl, rfl⟩, HO.out⟩
  case round =>
    obtain ⟨t, z, q, st, rfl, ht, hph, hO⟩ := hrel
    have HPH := Lib.hid hph
    have HO := Lib.hid hO
    clear hph hO
    obtain ⟨qa, qc, hqv⟩ := row_shape (HO.out.row 3 rfl)
    subst hqv
    have hx0 := HX.out.1
    have hx1 := HX.out.2
    have htb : (t : Int) ≤ 101 := by omega
    by_cases hle : (t : Int) ≤ mx
    · have hd : decide ((t : Int) ≤ mx) = true := decide_eq_true hle
      go_wp2_with fail
      refine (o_still HO.out (HP2.out _)).mono ?_
      rintro e x61 ⟨rfl, hO, -⟩
      replace HO := Lib.hid (show Own w glD x61 [resF f st, resZ a z, glR g, rowQs (.slice qa q.length qc) q] from hO)
      clear hO
      by_cases ht0 : t = 0
      · have hd0 : decide ((t : Int) > 0) = false := decide_eq_false (by omega)
        have hd1 : decide ((0 : Int) < (t : Int)) = false := decide_eq_false (by omega)
        have hd2 : (0 < t) = False := eq_false (by omega)
        have HMID := Lib.hid (show dnMid sd b t z q st by
          rcases HPH.out with ⟨rfl, rfl, rfl, rfl⟩ | ⟨j, hj, h1, h2, rfl, rfl⟩ | ⟨h1, rfl, rfl⟩
          · exact .inl ⟨0, by omega, rfl, rfl, rfl, rfl⟩
          · omega
          · omega)
        clear HPH ht0
        rcases HMID.out with ⟨j, hj, htj, rfl, rfl, rfl⟩ | ⟨rfl, hph2⟩
        · have HT2 := Lib.hid (show (t : Int) = 10 * (j : Int) by omega)
          have HJ := Lib.hid (And.intro hj htj)
          have hj8 : (j : Int) ≤ 8 := by omega
          clear hj htj
          obtain ⟨r, hr1, hr2, hr3⟩ := dn_sw j
          have HSB := Lib.hid (dnSv_bd j)
          have HPB := Lib.hid (dnPt_bd sd j)
          have HSW := Lib.hid (show (5 ≤ 5 + r ∧ 5 + r ≤ 7) ∧ 5 + r ≠ dnSv j from ⟨by omega, hr3⟩)
          have HEA := Lib.hid (dn_early (sd := sd) (k := j) (by omega))
          have HWE := Lib.hid (dn_went (sd := sd) (k := j) (by omega))
          have HCA := Lib.hid (dn_came (sd := sd) (k := j) (by omega))
          have HWR := Lib.hid (dn_wrong (sd := sd) (k := j) (s := 5 + r) (by omega) HSW.out.1 HSW.out.2)
          have HLA := Lib.hid (dn_last (sd := sd) (k := j) (by omega))
          have HF0 := Lib.hid (dnF_fw (sd := sd) (k := j) (by omega))
          have HF1 := Lib.hid (dnF_fw (sd := sd) (k := j + 1) (by omega))
          have HG0 := Lib.hid (dnG_fw (sd := sd) (k := j) (by omega))
          have hpt : (dnQ sd j).pt = dnPt sd j := rfl
          have hsv : (dnQ sd j).sv = dnSv j := rfl
          obtain ⟨pp, hpp⟩ : ∃ pp, dnPt sd j = pp := ⟨_, rfl⟩
          obtain ⟨ss, hss⟩ : ∃ ss, dnSv j = ss := ⟨_, rfl⟩
          obtain ⟨qs, hqs⟩ : ∃ qs, (dnQ sd j).s = qs := ⟨_, rfl⟩
          rw [hpp] at HEA HWE HCA HWR HLA HPB
          rw [hss] at HEA HWE HCA HLA HSB HSW hr1
          have HQC := Lib.hid (show (([dnQ sd j] : List Qy).flatMap cQy) = [.int .i64 ss, .int .i64 pp, .string qs] by rw [← hpp, ← hss, ← hqs]; rfl)
          obtain ⟨hs5, hs7⟩ := HSB.out
          obtain ⟨hp5, hp7⟩ := HPB.out
          clear hpt hsv hpp hss hqs hr3
          obtain ⟨gq, rfl⟩ := row_some (HO.out.row 3 rfl) Nat.one_pos
          have HQR := Lib.hid (HO.out.row 3 rfl)
          go_wp2
          go_loopw [14] (fun iv wq => (iv = .int .i64 0 ∧ Own w glD wq [resF f (dnF sd j), resZ a (dnZ sd b j), glR g, rowQs (.slice (some ⟨gq, 0, none⟩) 1 qc) [dnQ sd j]]) ∨ (iv = .int .i64 1 ∧ Own w glD wq [resF f (dnF sd (j + 1)), resZ a (dnZ sd b j), glR g, rowQs (.slice (some ⟨gq, 0, none⟩) 1 qc) [dnQ sd j]])) (fun iv _ => 1 - (intOf iv).toNat)
          case atStart => exact .inl ⟨rfl, HO.out⟩
          case round =>
            clear HO HQR
            rcases hrel with ⟨rfl, hO⟩ | ⟨rfl, hO⟩
            · have HO := Lib.hid hO
              clear hO
              replace HO := Lib.hid (show Own w glD wr [resF f (dnF sd j), resZ a (dnZ sd b j), glR g, rowR (.slice (some ⟨gq, 0, none⟩) 1 qc) 37 3 1 [.int .i64 ss, .int .i64 pp, .string qs]] from by rw [← HQC.out]; exact HO.out)
              have rbF := run_bdFw pp ss
              have c0 : wr.cell? ⟨gq, 0, none⟩ = some (.int .i64 ss) := (row_cells (HO.out.row 3 rfl)).1 0 _ rfl
              have c1 : wr.cell? ⟨gq, 1, none⟩ = some (.int .i64 pp) := (row_cells (HO.out.row 3 rfl)).1 1 _ rfl
              have g0 := cell_regrown c0
              have g1 := cell_regrown c1
              go_wp2
              refine wp_region_R 12 (by kernel_rfl) (by kernel_rfl) ?_
              simp only [List.take, List.drop]
              iterate 11 (first | (refine wpR_want (by kernel_rfl) rfl rfl ?_; intro K hK; go_big_quiet_op; go_big_quiet_on) | (refine wpR_is (by kernel_rfl) rfl _ (fun w _ => rfl) ?_; simp only [Act.put, List.setIfInBounds_toArray, List.set_cons_succ, List.set_cons_zero]))
              refine wpR_ex (nblk wr.heap.size (.cells #[.int .i64 0, .int .i64 0, .int .i64 0, .int .i64 0, .int .i64 0, .bool false, .bool false, .bool false, .int .i64 0] 39)) (nblk_lasts _ _) (by kernel_rfl) (fun a' w' hw' he => ?_) (fun d hd => ?_)
              · have hs := hw'.size
                simp [go_sem]
                exact ⟨_, rfl, (Below.refl _ _).alloc (Nat.le_refl _) _, ⟨w'.heap.size, rfl, hs, new_block _ _⟩⟩
              cases hd
              simp only [List.nil_append]
              refine wpR_nil (by kernel_rfl) (by simp) ?_
              rintro x9 hbw
              simp only [exAll]
              rintro u15 ⟨bx, rfl, hgebx, hbbbx⟩
              simp only [Act.put, List.setIfInBounds_toArray, List.set_cons_succ, List.set_cons_zero, List.drop]
              have hO := HO.out.push (R := blkR bx (.cells #[.int .i64 0, .int .i64 0, .int .i64 0, .int .i64 0, .int .i64 0, .bool false, .bool false, .bool false, .int .i64 0] 39)) (F := fun z => z = bx) ⟨fun _ => Iff.rfl, hbbbx⟩ (fun z hz => hz ▸ hgebx) hbw
              clear hgebx hbbbx
              replace HO := Lib.hid (show Own w glD x9 [resF f (dnF sd j), resZ a (dnZ sd b j), glR g, rowR (.slice (some ⟨gq, 0, none⟩) 1 qc) 37 3 1 [.int .i64 ss, .int .i64 pp, .string qs], blkR bx (.cells #[.int .i64 0, .int .i64 0, .int .i64 0, .int .i64 0, .int .i64 0, .bool false, .bool false, .bool false, .int .i64 0] 39)] from hO)
              clear hO hbw g0 g1 c0 c1 
              have k4_0_101 : x9.cell? ⟨bx, 0, none⟩ = some (.int .i64 0) := HO.out.cell 4 rfl 0 rfl
              have lk4_0_101 : x9.frozen? ⟨bx, 0, none⟩ = false := HO.out.frz 4 rfl 0
              have k4_1_102 : x9.cell? ⟨bx, 1, none⟩ = some (.int .i64 0) := HO.out.cell 4 rfl 1 rfl
              have lk4_1_102 : x9.frozen? ⟨bx, 1, none⟩ = false := HO.out.frz 4 rfl 1
              have k4_2_103 : x9.cell? ⟨bx, 2, none⟩ = some (.int .i64 0) := HO.out.cell 4 rfl 2 rfl
              have lk4_2_103 : x9.frozen? ⟨bx, 2, none⟩ = false := HO.out.frz 4 rfl 2
              have k4_3_104 : x9.cell? ⟨bx, 3, none⟩ = some (.int .i64 0) := HO.out.cell 4 rfl 3 rfl
              have lk4_3_104 : x9.frozen? ⟨bx, 3, none⟩ = false := HO.out.frz 4 rfl 3
              have k4_4_105 : x9.cell? ⟨bx, 4, none⟩ = some (.int .i64 0) := HO.out.cell 4 rfl 4 rfl
              have lk4_4_105 : x9.frozen? ⟨bx, 4, none⟩ = false := HO.out.frz 4 rfl 4
              have k4_5_106 : x9.cell? ⟨bx, 5, none⟩ = some (.bool false) := HO.out.cell 4 rfl 5 rfl
              have lk4_5_106 : x9.frozen? ⟨bx, 5, none⟩ = false := HO.out.frz 4 rfl 5
              have k4_6_107 : x9.cell? ⟨bx, 6, none⟩ = some (.bool false) := HO.out.cell 4 rfl 6 rfl
              have lk4_6_107 : x9.frozen? ⟨bx, 6, none⟩ = false := HO.out.frz 4 rfl 6
              have k4_7_108 : x9.cell? ⟨bx, 7, none⟩ = some (.bool false) := HO.out.cell 4 rfl 7 rfl
              have lk4_7_108 : x9.frozen? ⟨bx, 7, none⟩ = false := HO.out.frz 4 rfl 7
              have k4_8_109 : x9.cell? ⟨bx, 8, none⟩ = some (.int .i64 0) := HO.out.cell 4 rfl 8 rfl
              have lk4_8_109 : x9.frozen? ⟨bx, 8, none⟩ = false := HO.out.frz 4 rfl 8
              obtain ⟨x110, hx110⟩ : ∃ y, x9.setCell ⟨bx, 0, none⟩ (.int .i64 17) = y := ⟨_, rfl⟩
              have hO := HO.out.setCell 4 rfl 0 (.int .i64 17)
              rw [hx110] at hO
              replace HO := Lib.hid (show Own w glD x110 [resF f (dnF sd j), resZ a (dnZ sd b j), glR g, rowR (.slice (some ⟨gq, 0, none⟩) 1 qc) 37 3 1 [.int .i64 ss, .int .i64 pp, .string qs], blkR bx (.cells #[.int .i64 17, .int .i64 0, .int .i64 0, .int .i64 0, .int .i64 0, .bool false, .bool false, .bool false, .int .i64 0] 39)] from hO)
              clear hO
              have k4_1_111 : x110.cell? ⟨bx, 1, none⟩ = some (.int .i64 0) := HO.out.cell 4 rfl 1 rfl
              have lk4_1_111 : x110.frozen? ⟨bx, 1, none⟩ = false := HO.out.frz 4 rfl 1
              have k4_2_112 : x110.cell? ⟨bx, 2, none⟩ = some (.int .i64 0) := HO.out.cell 4 rfl 2 rfl
              have lk4_2_112 : x110.frozen? ⟨bx, 2, none⟩ = false := HO.out.frz 4 rfl 2
              have k4_3_113 : x110.cell? ⟨bx, 3, none⟩ = some (.int .i64 0) := HO.out.cell 4 rfl 3 rfl
              have lk4_3_113 : x110.frozen? ⟨bx, 3, none⟩ = false := HO.out.frz 4 rfl 3
              have k4_4_114 : x110.cell? ⟨bx, 4, none⟩ = some (.int .i64 0) := HO.out.cell 4 rfl 4 rfl
              have lk4_4_114 : x110.frozen? ⟨bx, 4, none⟩ = false := HO.out.frz 4 rfl 4
              have k4_5_115 : x110.cell? ⟨bx, 5, none⟩ = some (.bool false) := HO.out.cell 4 rfl 5 rfl
              have lk4_5_115 : x110.frozen? ⟨bx, 5, none⟩ = false := HO.out.frz 4 rfl 5
              have k4_6_116 : x110.cell? ⟨bx, 6, none⟩ = some (.bool false) := HO.out.cell 4 rfl 6 rfl
              have lk4_6_116 : x110.frozen? ⟨bx, 6, none⟩ = false := HO.out.frz 4 rfl 6
              have k4_7_117 : x110.cell? ⟨bx, 7, none⟩ = some (.bool false) := HO.out.cell 4 rfl 7 rfl
              have lk4_7_117 : x110.frozen? ⟨bx, 7, none⟩ = false := HO.out.frz 4 rfl 7
              have k4_8_118 : x110.cell? ⟨bx, 8, none⟩ = some (.int .i64 0) := HO.out.cell 4 rfl 8 rfl
              have lk4_8_118 : x110.frozen? ⟨bx, 8, none⟩ = false := HO.out.frz 4 rfl 8
              obtain ⟨x119, hx119⟩ : ∃ y, x110.setCell ⟨bx, 1, none⟩ (.int .i64 9) = y := ⟨_, rfl⟩
              have hO := HO.out.setCell 4 rfl 1 (.int .i64 9)
              rw [hx119] at hO
              replace HO := Lib.hid (show Own w glD x119 [resF f (dnF sd j), resZ a (dnZ sd b j), glR g, rowR (.slice (some ⟨gq, 0, none⟩) 1 qc) 37 3 1 [.int .i64 ss, .int .i64 pp, .string qs], blkR bx (.cells #[.int .i64 17, .int .i64 9, .int .i64 0, .int .i64 0, .int .i64 0, .bool false, .bool false, .bool false, .int .i64 0] 39)] from hO)
              clear hO
              have k4_2_120 : x119.cell? ⟨bx, 2, none⟩ = some (.int .i64 0) := HO.out.cell 4 rfl 2 rfl
              have lk4_2_120 : x119.frozen? ⟨bx, 2, none⟩ = false := HO.out.frz 4 rfl 2
              have k4_3_121 : x119.cell? ⟨bx, 3, none⟩ = some (.int .i64 0) := HO.out.cell 4 rfl 3 rfl
              have lk4_3_121 : x119.frozen? ⟨bx, 3, none⟩ = false := HO.out.frz 4 rfl 3
              have k4_4_122 : x119.cell? ⟨bx, 4, none⟩ = some (.int .i64 0) := HO.out.cell 4 rfl 4 rfl
              have lk4_4_122 : x119.frozen? ⟨bx, 4, none⟩ = false := HO.out.frz 4 rfl 4
              have k4_5_123 : x119.cell? ⟨bx, 5, none⟩ = some (.bool false) := HO.out.cell 4 rfl 5 rfl
              have lk4_5_123 : x119.frozen? ⟨bx, 5, none⟩ = false := HO.out.frz 4 rfl 5
              have k4_6_124 : x119.cell? ⟨bx, 6, none⟩ = some (.bool false) := HO.out.cell 4 rfl 6 rfl
              have lk4_6_124 : x119.frozen? ⟨bx, 6, none⟩ = false := HO.out.frz 4 rfl 6
              have k4_7_125 : x119.cell? ⟨bx, 7, none⟩ = some (.bool false) := HO.out.cell 4 rfl 7 rfl
              have lk4_7_125 : x119.frozen? ⟨bx, 7, none⟩ = false := HO.out.frz 4 rfl 7
              have k4_8_126 : x119.cell? ⟨bx, 8, none⟩ = some (.int .i64 0) := HO.out.cell 4 rfl 8 rfl
              have lk4_8_126 : x119.frozen? ⟨bx, 8, none⟩ = false := HO.out.frz 4 rfl 8
              obtain ⟨x127, hx127⟩ : ∃ y, x119.setCell ⟨bx, 2, none⟩ (.int .i64 pp) = y := ⟨_, rfl⟩
              have hO := HO.out.setCell 4 rfl 2 (.int .i64 pp)
              rw [hx127] at hO
              replace HO := Lib.hid (show Own w glD x127 [resF f (dnF sd j), resZ a (dnZ sd b j), glR g, rowR (.slice (some ⟨gq, 0, none⟩) 1 qc) 37 3 1 [.int .i64 ss, .int .i64 pp, .string qs], blkR bx (.cells #[.int .i64 17, .int .i64 9, .int .i64 pp, .int .i64 0, .int .i64 0, .bool false, .bool false, .bool false, .int .i64 0] 39)] from hO)
              clear hO
              have k4_3_128 : x127.cell? ⟨bx, 3, none⟩ = some (.int .i64 0) := HO.out.cell 4 rfl 3 rfl
              have lk4_3_128 : x127.frozen? ⟨bx, 3, none⟩ = false := HO.out.frz 4 rfl 3
              have k4_4_129 : x127.cell? ⟨bx, 4, none⟩ = some (.int .i64 0) := HO.out.cell 4 rfl 4 rfl
              have lk4_4_129 : x127.frozen? ⟨bx, 4, none⟩ = false := HO.out.frz 4 rfl 4
              have k4_5_130 : x127.cell? ⟨bx, 5, none⟩ = some (.bool false) := HO.out.cell 4 rfl 5 rfl
              have lk4_5_130 : x127.frozen? ⟨bx, 5, none⟩ = false := HO.out.frz 4 rfl 5
              have k4_6_131 : x127.cell? ⟨bx, 6, none⟩ = some (.bool false) := HO.out.cell 4 rfl 6 rfl
              have lk4_6_131 : x127.frozen? ⟨bx, 6, none⟩ = false := HO.out.frz 4 rfl 6
              have k4_7_132 : x127.cell? ⟨bx, 7, none⟩ = some (.bool false) := HO.out.cell 4 rfl 7 rfl
              have lk4_7_132 : x127.frozen? ⟨bx, 7, none⟩ = false := HO.out.frz 4 rfl 7
              have k4_8_133 : x127.cell? ⟨bx, 8, none⟩ = some (.int .i64 0) := HO.out.cell 4 rfl 8 rfl
              have lk4_8_133 : x127.frozen? ⟨bx, 8, none⟩ = false := HO.out.frz 4 rfl 8
              obtain ⟨x134, hx134⟩ : ∃ y, x127.setCell ⟨bx, 3, none⟩ (.int .i64 ss) = y := ⟨_, rfl⟩
              have hO := HO.out.setCell 4 rfl 3 (.int .i64 ss)
              rw [hx134] at hO
              replace HO := Lib.hid (show Own w glD x134 [resF f (dnF sd j), resZ a (dnZ sd b j), glR g, rowR (.slice (some ⟨gq, 0, none⟩) 1 qc) 37 3 1 [.int .i64 ss, .int .i64 pp, .string qs], blkR bx (.cells #[.int .i64 17, .int .i64 9, .int .i64 pp, .int .i64 ss, .int .i64 0, .bool false, .bool false, .bool false, .int .i64 0] 39)] from hO)
              clear hO
              have k4_4_135 : x134.cell? ⟨bx, 4, none⟩ = some (.int .i64 0) := HO.out.cell 4 rfl 4 rfl
              have lk4_4_135 : x134.frozen? ⟨bx, 4, none⟩ = false := HO.out.frz 4 rfl 4
              have k4_5_136 : x134.cell? ⟨bx, 5, none⟩ = some (.bool false) := HO.out.cell 4 rfl 5 rfl
              have lk4_5_136 : x134.frozen? ⟨bx, 5, none⟩ = false := HO.out.frz 4 rfl 5
              have k4_6_137 : x134.cell? ⟨bx, 6, none⟩ = some (.bool false) := HO.out.cell 4 rfl 6 rfl
              have lk4_6_137 : x134.frozen? ⟨bx, 6, none⟩ = false := HO.out.frz 4 rfl 6
              have k4_7_138 : x134.cell? ⟨bx, 7, none⟩ = some (.bool false) := HO.out.cell 4 rfl 7 rfl
              have lk4_7_138 : x134.frozen? ⟨bx, 7, none⟩ = false := HO.out.frz 4 rfl 7
              have k4_8_139 : x134.cell? ⟨bx, 8, none⟩ = some (.int .i64 0) := HO.out.cell 4 rfl 8 rfl
              have lk4_8_139 : x134.frozen? ⟨bx, 8, none⟩ = false := HO.out.frz 4 rfl 8
              obtain ⟨x140, hx140⟩ : ∃ y, x134.setCell ⟨bx, 4, none⟩ (.int .i64 53) = y := ⟨_, rfl⟩
              have hO := HO.out.setCell 4 rfl 4 (.int .i64 53)
              rw [hx140] at hO
              replace HO := Lib.hid (show Own w glD x140 [resF f (dnF sd j), resZ a (dnZ sd b j), glR g, rowR (.slice (some ⟨gq, 0, none⟩) 1 qc) 37 3 1 [.int .i64 ss, .int .i64 pp, .string qs], blkR bx (.cells #[.int .i64 17, .int .i64 9, .int .i64 pp, .int .i64 ss, .int .i64 53, .bool false, .bool false, .bool false, .int .i64 0] 39)] from hO)
              clear hO
              have k4_5_141 : x140.cell? ⟨bx, 5, none⟩ = some (.bool false) := HO.out.cell 4 rfl 5 rfl
              have lk4_5_141 : x140.frozen? ⟨bx, 5, none⟩ = false := HO.out.frz 4 rfl 5
              have k4_6_142 : x140.cell? ⟨bx, 6, none⟩ = some (.bool false) := HO.out.cell 4 rfl 6 rfl
              have lk4_6_142 : x140.frozen? ⟨bx, 6, none⟩ = false := HO.out.frz 4 rfl 6
              have k4_7_143 : x140.cell? ⟨bx, 7, none⟩ = some (.bool false) := HO.out.cell 4 rfl 7 rfl
              have lk4_7_143 : x140.frozen? ⟨bx, 7, none⟩ = false := HO.out.frz 4 rfl 7
              have k4_8_144 : x140.cell? ⟨bx, 8, none⟩ = some (.int .i64 0) := HO.out.cell 4 rfl 8 rfl
              have lk4_8_144 : x140.frozen? ⟨bx, 8, none⟩ = false := HO.out.frz 4 rfl 8
              obtain ⟨x145, hx145⟩ : ∃ y, x140.setCell ⟨bx, 5, none⟩ (.bool false) = y := ⟨_, rfl⟩
              have hO := HO.out.setCell 4 rfl 5 (.bool false)
              rw [hx145] at hO
              replace HO := Lib.hid (show Own w glD x145 [resF f (dnF sd j), resZ a (dnZ sd b j), glR g, rowR (.slice (some ⟨gq, 0, none⟩) 1 qc) 37 3 1 [.int .i64 ss, .int .i64 pp, .string qs], blkR bx (.cells #[.int .i64 17, .int .i64 9, .int .i64 pp, .int .i64 ss, .int .i64 53, .bool false, .bool false, .bool false, .int .i64 0] 39)] from hO)
              clear hO
              have k4_6_146 : x145.cell? ⟨bx, 6, none⟩ = some (.bool false) := HO.out.cell 4 rfl 6 rfl
              have lk4_6_146 : x145.frozen? ⟨bx, 6, none⟩ = false := HO.out.frz 4 rfl 6
              have k4_7_147 : x145.cell? ⟨bx, 7, none⟩ = some (.bool false) := HO.out.cell 4 rfl 7 rfl
              have lk4_7_147 : x145.frozen? ⟨bx, 7, none⟩ = false := HO.out.frz 4 rfl 7
              have k4_8_148 : x145.cell? ⟨bx, 8, none⟩ = some (.int .i64 0) := HO.out.cell 4 rfl 8 rfl
              have lk4_8_148 : x145.frozen? ⟨bx, 8, none⟩ = false := HO.out.frz 4 rfl 8
              obtain ⟨x149, hx149⟩ : ∃ y, x145.setCell ⟨bx, 6, none⟩ (.bool false) = y := ⟨_, rfl⟩
              have hO := HO.out.setCell 4 rfl 6 (.bool false)
              rw [hx149] at hO
              replace HO := Lib.hid (show Own w glD x149 [resF f (dnF sd j), resZ a (dnZ sd b j), glR g, rowR (.slice (some ⟨gq, 0, none⟩) 1 qc) 37 3 1 [.int .i64 ss, .int .i64 pp, .string qs], blkR bx (.cells #[.int .i64 17, .int .i64 9, .int .i64 pp, .int .i64 ss, .int .i64 53, .bool false, .bool false, .bool false, .int .i64 0] 39)] from hO)
              clear hO
              have k4_7_150 : x149.cell? ⟨bx, 7, none⟩ = some (.bool false) := HO.out.cell 4 rfl 7 rfl
              have lk4_7_150 : x149.frozen? ⟨bx, 7, none⟩ = false := HO.out.frz 4 rfl 7
              have k4_8_151 : x149.cell? ⟨bx, 8, none⟩ = some (.int .i64 0) := HO.out.cell 4 rfl 8 rfl
              have lk4_8_151 : x149.frozen? ⟨bx, 8, none⟩ = false := HO.out.frz 4 rfl 8
              obtain ⟨x152, hx152⟩ : ∃ y, x149.setCell ⟨bx, 7, none⟩ (.bool false) = y := ⟨_, rfl⟩
              have hO := HO.out.setCell 4 rfl 7 (.bool false)
              rw [hx152] at hO
              replace HO := Lib.hid (show Own w glD x152 [resF f (dnF sd j), resZ a (dnZ sd b j), glR g, rowR (.slice (some ⟨gq, 0, none⟩) 1 qc) 37 3 1 [.int .i64 ss, .int .i64 pp, .string qs], blkR bx (.cells #[.int .i64 17, .int .i64 9, .int .i64 pp, .int .i64 ss, .int .i64 53, .bool false, .bool false, .bool false, .int .i64 0] 39)] from hO)
              clear hO
              have k4_8_153 : x152.cell? ⟨bx, 8, none⟩ = some (.int .i64 0) := HO.out.cell 4 rfl 8 rfl
              have lk4_8_153 : x152.frozen? ⟨bx, 8, none⟩ = false := HO.out.frz 4 rfl 8
              obtain ⟨x154, hx154⟩ : ∃ y, x152.setCell ⟨bx, 8, none⟩ (.int .i64 0) = y := ⟨_, rfl⟩
              have hO := HO.out.setCell 4 rfl 8 (.int .i64 0)
              rw [hx154] at hO
              replace HO := Lib.hid (show Own w glD x154 [resF f (dnF sd j), resZ a (dnZ sd b j), glR g, rowR (.slice (some ⟨gq, 0, none⟩) 1 qc) 37 3 1 [.int .i64 ss, .int .i64 pp, .string qs], blkR bx (.cells #[.int .i64 17, .int .i64 9, .int .i64 pp, .int .i64 ss, .int .i64 53, .bool false, .bool false, .bool false, .int .i64 0] 39)] from hO)
              clear hO
              have z4_0 : x154.cell? ⟨bx, 0, none⟩ = some (.int .i64 17) := HO.out.cell 4 rfl 0 rfl
              have z4_1 : x154.cell? ⟨bx, 1, none⟩ = some (.int .i64 9) := HO.out.cell 4 rfl 1 rfl
              have z4_2 : x154.cell? ⟨bx, 2, none⟩ = some (.int .i64 pp) := HO.out.cell 4 rfl 2 rfl
              have z4_3 : x154.cell? ⟨bx, 3, none⟩ = some (.int .i64 ss) := HO.out.cell 4 rfl 3 rfl
              have z4_4 : x154.cell? ⟨bx, 4, none⟩ = some (.int .i64 53) := HO.out.cell 4 rfl 4 rfl
              have z4_5 : x154.cell? ⟨bx, 5, none⟩ = some (.bool false) := HO.out.cell 4 rfl 5 rfl
              have z4_6 : x154.cell? ⟨bx, 6, none⟩ = some (.bool false) := HO.out.cell 4 rfl 6 rfl
              have z4_7 : x154.cell? ⟨bx, 7, none⟩ = some (.bool false) := HO.out.cell 4 rfl 7 rfl
              have z4_8 : x154.cell? ⟨bx, 8, none⟩ = some (.int .i64 0) := HO.out.cell 4 rfl 8 rfl
              go_wp2_with fail
              refine (did_f (T := 1000) (N := 20) (how := 2) (now := (t : Int)) (x := ⟨17, 9, pp, ss, 53, false, false, false, 0⟩) (r := false) (st := dnF sd j) (st' := dnF sd j) HO.out 0 rfl (by have := HEA.out; rw [← HT2.out] at this; exact this) HF0.out.1 HF0.out.2 (by omega) (by omega) (by unfold timeB; omega) (by unfold i64B; omega)).mono ?_
              rintro e x155 ⟨rfl, hO, -⟩
              replace HO := Lib.hid (show Own w glD x155 [resF f (dnF sd j), resZ a (dnZ sd b j), glR g, rowR (.slice (some ⟨gq, 0, none⟩) 1 qc) 37 3 1 [.int .i64 ss, .int .i64 pp, .string qs], blkR bx (.cells #[.int .i64 17, .int .i64 9, .int .i64 pp, .int .i64 ss, .int .i64 53, .bool false, .bool false, .bool false, .int .i64 0] 39)] from hO)
              clear hO
              clear k4_0_101 lk4_0_101 k4_1_102 lk4_1_102 k4_2_103 lk4_2_103 k4_3_104 lk4_3_104 k4_4_105 lk4_4_105 k4_5_106 lk4_5_106 k4_6_107 lk4_6_107 k4_7_108 lk4_7_108 k4_8_109 lk4_8_109 hx110 k4_1_111 lk4_1_111 k4_2_112 lk4_2_112 k4_3_113 lk4_3_113 k4_4_114 lk4_4_114 k4_5_115 lk4_5_115 k4_6_116 lk4_6_116 k4_7_117 lk4_7_117 k4_8_118 lk4_8_118 hx119 k4_2_120 lk4_2_120 k4_3_121 lk4_3_121 k4_4_122 lk4_4_122 k4_5_123 lk4_5_123 k4_6_124 lk4_6_124 k4_7_125 lk4_7_125 k4_8_126 lk4_8_126 hx127 k4_3_128 lk4_3_128 k4_4_129 lk4_4_129 k4_5_130 lk4_5_130 k4_6_131 lk4_6_131 k4_7_132 lk4_7_132 k4_8_133 lk4_8_133 hx134 k4_4_135 lk4_4_135 k4_5_136 lk4_5_136 k4_6_137 lk4_6_137 k4_7_138 lk4_7_138 k4_8_139 lk4_8_139 hx140 k4_5_141 lk4_5_141 k4_6_142 lk4_6_142 k4_7_143 lk4_7_143 k4_8_144 lk4_8_144 hx145 k4_6_146 lk4_6_146 k4_7_147 lk4_7_147 k4_8_148 lk4_8_148 hx149 k4_7_150 lk4_7_150 k4_8_151 lk4_8_151 hx152 k4_8_153 lk4_8_153 hx154 z4_0 z4_1 z4_2 z4_3 z4_4 z4_5 z4_6 z4_7 z4_8
              have z4_0 : x155.cell? ⟨bx, 0, none⟩ = some (.int .i64 17) := HO.out.cell 4 rfl 0 rfl
              have z4_1 : x155.cell? ⟨bx, 1, none⟩ = some (.int .i64 9) := HO.out.cell 4 rfl 1 rfl
              have z4_2 : x155.cell? ⟨bx, 2, none⟩ = some (.int .i64 pp) := HO.out.cell 4 rfl 2 rfl
              have z4_3 : x155.cell? ⟨bx, 3, none⟩ = some (.int .i64 ss) := HO.out.cell 4 rfl 3 rfl
              have z4_4 : x155.cell? ⟨bx, 4, none⟩ = some (.int .i64 53) := HO.out.cell 4 rfl 4 rfl
              have z4_5 : x155.cell? ⟨bx, 5, none⟩ = some (.bool false) := HO.out.cell 4 rfl 5 rfl
              have z4_6 : x155.cell? ⟨bx, 6, none⟩ = some (.bool false) := HO.out.cell 4 rfl 6 rfl
              have z4_7 : x155.cell? ⟨bx, 7, none⟩ = some (.bool false) := HO.out.cell 4 rfl 7 rfl
              have z4_8 : x155.cell? ⟨bx, 8, none⟩ = some (.int .i64 0) := HO.out.cell 4 rfl 8 rfl
              go_wp2_with fail
              refine (did_f (T := 1000) (N := 20) (how := 0) (now := (t : Int)) (x := ⟨17, 9, pp, ss, 53, false, false, false, 0⟩) (r := true) (st := dnF sd j) (st' := dnG sd j) HO.out 0 rfl (by have := HWE.out; rw [← HT2.out] at this; exact this) HF0.out.1 HF0.out.2 (by omega) (by omega) (by unfold timeB; omega) (by unfold i64B; omega)).mono ?_
              rintro e x156 ⟨rfl, hO, -⟩
              replace HO := Lib.hid (show Own w glD x156 [resF f (dnG sd j), resZ a (dnZ sd b j), glR g, rowR (.slice (some ⟨gq, 0, none⟩) 1 qc) 37 3 1 [.int .i64 ss, .int .i64 pp, .string qs], blkR bx (.cells #[.int .i64 17, .int .i64 9, .int .i64 pp, .int .i64 ss, .int .i64 53, .bool false, .bool false, .bool false, .int .i64 0] 39)] from hO)
              clear hO
              clear z4_0 z4_1 z4_2 z4_3 z4_4 z4_5 z4_6 z4_7 z4_8
              have z4_0 : x156.cell? ⟨bx, 0, none⟩ = some (.int .i64 17) := HO.out.cell 4 rfl 0 rfl
              have z4_1 : x156.cell? ⟨bx, 1, none⟩ = some (.int .i64 9) := HO.out.cell 4 rfl 1 rfl
              have z4_2 : x156.cell? ⟨bx, 2, none⟩ = some (.int .i64 pp) := HO.out.cell 4 rfl 2 rfl
              have z4_3 : x156.cell? ⟨bx, 3, none⟩ = some (.int .i64 ss) := HO.out.cell 4 rfl 3 rfl
              have z4_4 : x156.cell? ⟨bx, 4, none⟩ = some (.int .i64 53) := HO.out.cell 4 rfl 4 rfl
              have z4_5 : x156.cell? ⟨bx, 5, none⟩ = some (.bool false) := HO.out.cell 4 rfl 5 rfl
              have z4_6 : x156.cell? ⟨bx, 6, none⟩ = some (.bool false) := HO.out.cell 4 rfl 6 rfl
              have z4_7 : x156.cell? ⟨bx, 7, none⟩ = some (.bool false) := HO.out.cell 4 rfl 7 rfl
              have z4_8 : x156.cell? ⟨bx, 8, none⟩ = some (.int .i64 0) := HO.out.cell 4 rfl 8 rfl
              go_wp2_with fail
              refine (did_f (T := 1000) (N := 20) (how := 2) (now := (t : Int) + 1) (x := ⟨17, 9, pp, ss, 53, false, false, false, 0⟩) (r := true) (st := dnG sd j) (st' := dnF sd (j + 1)) HO.out 0 rfl (by have := HCA.out; rw [← HT2.out] at this; exact this) HG0.out.1 HG0.out.2 (by omega) (by omega) (by unfold timeB; omega) (by unfold i64B; omega)).mono ?_
              rintro e x157 ⟨rfl, hO, -⟩
              replace HO := Lib.hid (show Own w glD x157 [resF f (dnF sd (j + 1)), resZ a (dnZ sd b j), glR g, rowR (.slice (some ⟨gq, 0, none⟩) 1 qc) 37 3 1 [.int .i64 ss, .int .i64 pp, .string qs], blkR bx (.cells #[.int .i64 17, .int .i64 9, .int .i64 pp, .int .i64 ss, .int .i64 53, .bool false, .bool false, .bool false, .int .i64 0] 39)] from hO)
              clear hO
              clear z4_0 z4_1 z4_2 z4_3 z4_4 z4_5 z4_6 z4_7 z4_8
              have hsub := hr1
              have c0 : x157.cell? ⟨gq, 0, none⟩ = some (.int .i64 ss) := (row_cells (HO.out.row 3 rfl)).1 0 _ rfl
              have y4_3 : x157.frozen? ⟨bx, 3, none⟩ = false := HO.out.frz 4 rfl 3
              have z4_3 : x157.cell? ⟨bx, 3, none⟩ = some (.int .i64 ss) := HO.out.cell 4 rfl 3 rfl
              obtain ⟨x158, hx158⟩ : ∃ y, x157.setCell ⟨bx, 3, none⟩ (.int .i64 (5 + r)) = y := ⟨_, rfl⟩
              have hO := HO.out.setCell 4 rfl 3 (.int .i64 (5 + r))
              rw [hx158] at hO
              replace HO := Lib.hid (show Own w glD x158 [resF f (dnF sd (j + 1)), resZ a (dnZ sd b j), glR g, rowR (.slice (some ⟨gq, 0, none⟩) 1 qc) 37 3 1 [.int .i64 ss, .int .i64 pp, .string qs], blkR bx (.cells #[.int .i64 17, .int .i64 9, .int .i64 pp, .int .i64 (5 + r), .int .i64 53, .bool false, .bool false, .bool false, .int .i64 0] 39)] from hO)
              clear hO
              have z4_0 : x158.cell? ⟨bx, 0, none⟩ = some (.int .i64 17) := HO.out.cell 4 rfl 0 rfl
              have z4_1 : x158.cell? ⟨bx, 1, none⟩ = some (.int .i64 9) := HO.out.cell 4 rfl 1 rfl
              have z4_2 : x158.cell? ⟨bx, 2, none⟩ = some (.int .i64 pp) := HO.out.cell 4 rfl 2 rfl
              have z4_3t : x158.cell? ⟨bx, 3, none⟩ = some (.int .i64 (5 + r)) := HO.out.cell 4 rfl 3 rfl
              have z4_4 : x158.cell? ⟨bx, 4, none⟩ = some (.int .i64 53) := HO.out.cell 4 rfl 4 rfl
              have z4_5 : x158.cell? ⟨bx, 5, none⟩ = some (.bool false) := HO.out.cell 4 rfl 5 rfl
              have z4_6 : x158.cell? ⟨bx, 6, none⟩ = some (.bool false) := HO.out.cell 4 rfl 6 rfl
              have z4_7 : x158.cell? ⟨bx, 7, none⟩ = some (.bool false) := HO.out.cell 4 rfl 7 rfl
              have z4_8 : x158.cell? ⟨bx, 8, none⟩ = some (.int .i64 0) := HO.out.cell 4 rfl 8 rfl
              go_wp2_with fail
              refine (did_f (T := 1000) (N := 20) (how := 2) (now := (t : Int) + 1) (x := ⟨17, 9, pp, (5 + r), 53, false, false, false, 0⟩) (r := false) (st := dnF sd (j + 1)) (st' := dnF sd (j + 1)) HO.out 0 rfl (by have := HWR.out; rw [← HT2.out] at this; exact this) HF1.out.1 HF1.out.2 (by omega) (by omega) (by unfold timeB; omega) (by unfold i64B; omega)).mono ?_
              rintro e x159 ⟨rfl, hO, -⟩
              replace HO := Lib.hid (show Own w glD x159 [resF f (dnF sd (j + 1)), resZ a (dnZ sd b j), glR g, rowR (.slice (some ⟨gq, 0, none⟩) 1 qc) 37 3 1 [.int .i64 ss, .int .i64 pp, .string qs], blkR bx (.cells #[.int .i64 17, .int .i64 9, .int .i64 pp, .int .i64 (5 + r), .int .i64 53, .bool false, .bool false, .bool false, .int .i64 0] 39)] from hO)
              clear hO
              clear c0 y4_3 z4_3 hx158 z4_0 z4_1 z4_2 z4_3t z4_4 z4_5 z4_6 z4_7 z4_8
              have c0 : x159.cell? ⟨gq, 0, none⟩ = some (.int .i64 ss) := (row_cells (HO.out.row 3 rfl)).1 0 _ rfl
              have y4_3 : x159.frozen? ⟨bx, 3, none⟩ = false := HO.out.frz 4 rfl 3
              have z4_3 : x159.cell? ⟨bx, 3, none⟩ = some (.int .i64 (5 + r)) := HO.out.cell 4 rfl 3 rfl
              obtain ⟨x160, hx160⟩ : ∃ y, x159.setCell ⟨bx, 3, none⟩ (.int .i64 ss) = y := ⟨_, rfl⟩
              have hO := HO.out.setCell 4 rfl 3 (.int .i64 ss)
              rw [hx160] at hO
              replace HO := Lib.hid (show Own w glD x160 [resF f (dnF sd (j + 1)), resZ a (dnZ sd b j), glR g, rowR (.slice (some ⟨gq, 0, none⟩) 1 qc) 37 3 1 [.int .i64 ss, .int .i64 pp, .string qs], blkR bx (.cells #[.int .i64 17, .int .i64 9, .int .i64 pp, .int .i64 ss, .int .i64 53, .bool false, .bool false, .bool false, .int .i64 0] 39)] from hO)
              clear hO
              have y4_4 : x160.frozen? ⟨bx, 4, none⟩ = false := HO.out.frz 4 rfl 4
              have z4_4 : x160.cell? ⟨bx, 4, none⟩ = some (.int .i64 53) := HO.out.cell 4 rfl 4 rfl
              obtain ⟨x161, hx161⟩ : ∃ y, x160.setCell ⟨bx, 4, none⟩ (.int .i64 54) = y := ⟨_, rfl⟩
              have hO := HO.out.setCell 4 rfl 4 (.int .i64 54)
              rw [hx161] at hO
              replace HO := Lib.hid (show Own w glD x161 [resF f (dnF sd (j + 1)), resZ a (dnZ sd b j), glR g, rowR (.slice (some ⟨gq, 0, none⟩) 1 qc) 37 3 1 [.int .i64 ss, .int .i64 pp, .string qs], blkR bx (.cells #[.int .i64 17, .int .i64 9, .int .i64 pp, .int .i64 ss, .int .i64 54, .bool false, .bool false, .bool false, .int .i64 0] 39)] from hO)
              clear hO
              have z4_0 : x161.cell? ⟨bx, 0, none⟩ = some (.int .i64 17) := HO.out.cell 4 rfl 0 rfl
              have z4_1 : x161.cell? ⟨bx, 1, none⟩ = some (.int .i64 9) := HO.out.cell 4 rfl 1 rfl
              have z4_2 : x161.cell? ⟨bx, 2, none⟩ = some (.int .i64 pp) := HO.out.cell 4 rfl 2 rfl
              have z4_3t : x161.cell? ⟨bx, 3, none⟩ = some (.int .i64 ss) := HO.out.cell 4 rfl 3 rfl
              have z4_4t : x161.cell? ⟨bx, 4, none⟩ = some (.int .i64 54) := HO.out.cell 4 rfl 4 rfl
              have z4_5 : x161.cell? ⟨bx, 5, none⟩ = some (.bool false) := HO.out.cell 4 rfl 5 rfl
              have z4_6 : x161.cell? ⟨bx, 6, none⟩ = some (.bool false) := HO.out.cell 4 rfl 6 rfl
              have z4_7 : x161.cell? ⟨bx, 7, none⟩ = some (.bool false) := HO.out.cell 4 rfl 7 rfl
              have z4_8 : x161.cell? ⟨bx, 8, none⟩ = some (.int .i64 0) := HO.out.cell 4 rfl 8 rfl
              go_wp2_with fail
              refine (did_f (T := 1000) (N := 20) (how := 2) (now := (t : Int) + 1) (x := ⟨17, 9, pp, ss, 54, false, false, false, 0⟩) (r := false) (st := dnF sd (j + 1)) (st' := dnF sd (j + 1)) HO.out 0 rfl (by have := HLA.out; rw [← HT2.out] at this; exact this) HF1.out.1 HF1.out.2 (by omega) (by omega) (by unfold timeB; omega) (by unfold i64B; omega)).mono ?_
              rintro e x162 ⟨rfl, hO, -⟩
              replace HO := Lib.hid (show Own w glD x162 [resF f (dnF sd (j + 1)), resZ a (dnZ sd b j), glR g, rowR (.slice (some ⟨gq, 0, none⟩) 1 qc) 37 3 1 [.int .i64 ss, .int .i64 pp, .string qs], blkR bx (.cells #[.int .i64 17, .int .i64 9, .int .i64 pp, .int .i64 ss, .int .i64 54, .bool false, .bool false, .bool false, .int .i64 0] 39)] from hO)
              clear hO
              clear c0 y4_3 z4_3 hx160 y4_4 z4_4 hx161 z4_0 z4_1 z4_2 z4_3t z4_4t z4_5 z4_6 z4_7 z4_8
              go_wp2
              go_roundw
              case rel => exact .inr ⟨by go_num, by rw [← HQC.out] at HO; exact HO.out.take 4⟩
              case measure => simp [intOf]
            · have HO := Lib.hid hO
              clear hO
              go_wp2
              go_roundw
              case rel => exact ⟨t + 1, dnZ sd b j, [dnQ sd j], dnF sd (j + 1), by go_num, by have := HJ.out; omega, by rw [HJ.out.2]; exact dn_after HJ.out.1, HO.out⟩
              case measure => simp [intOf]; omega
        · have HPN := Lib.hid hph2
          clear hph2
          go_wp2
          go_loopw [14] (fun iv wq => iv = .int .i64 0 ∧ Own w glD wq [resF f st, resZ a z, glR g, rowQs (.slice qa 0 qc) []]) (fun iv _ => 0)
          case atStart => exact ⟨rfl, HO.out⟩
          case round =>
            clear HO
            obtain ⟨rfl, hO⟩ := hrel
            have HO := Lib.hid hO
            clear hO
            go_wp2
            go_roundw
            case rel => exact ⟨t + 1, _, [], _, by go_num, by omega, HPN.out, HO.out⟩
            case measure => simp [intOf]; omega
      · have hd0 : decide ((t : Int) > 0) = true := decide_eq_true (by omega)
        have hd1 : decide ((0 : Int) < (t : Int)) = true := decide_eq_true (by omega)
        have HMID := Lib.hid (dn_step HPH.out (by omega))
        have HZI := Lib.hid (dn_zi HPH.out HS.out.1 HS.out.2 (by omega))
        clear HPH
        go_wp2_with fail
        refine (o_frameV [resF f st] [resZ a z, glR g] _ (HO.out.toEnd 4 [0, 1, 2] rfl rfl) (fun D' hD => tick_z (now := (t : Int)) hD HZI.out.1 HZI.out.2.1 HZI.out.2.2.1 HZI.out.2.2.2.1 HZI.out.2.2.2.2 (by omega))).mono ?_
        rintro e xt ⟨v2, rfl, hO, -⟩
        obtain ⟨⟨z2, q2⟩, hzq⟩ : ∃ p, tickZ (t : Int) z = p := ⟨_, rfl⟩
        rw [hzq] at hO HMID
        replace HO := Lib.hid (show Own w glD xt [resF f st, resZ a z2, glR g, rowQs v2 q2] from hO)
        obtain ⟨va, vc, rfl⟩ := row_shape (HO.out.row 3 rfl)
        clear hO hzq HZI
        rcases HMID.out with ⟨j, hj, htj, rfl, rfl, rfl⟩ | ⟨rfl, hph2⟩
        · have HT2 := Lib.hid (show (t : Int) = 10 * (j : Int) by omega)
          have HJ := Lib.hid (And.intro hj htj)
          have hj8 : (j : Int) ≤ 8 := by omega
          clear hj htj
          obtain ⟨r, hr1, hr2, hr3⟩ := dn_sw j
          have HSB := Lib.hid (dnSv_bd j)
          have HPB := Lib.hid (dnPt_bd sd j)
          have HSW := Lib.hid (show (5 ≤ 5 + r ∧ 5 + r ≤ 7) ∧ 5 + r ≠ dnSv j from ⟨by omega, hr3⟩)
          have HEA := Lib.hid (dn_early (sd := sd) (k := j) (by omega))
          have HWE := Lib.hid (dn_went (sd := sd) (k := j) (by omega))
          have HCA := Lib.hid (dn_came (sd := sd) (k := j) (by omega))
          have HWR := Lib.hid (dn_wrong (sd := sd) (k := j) (s := 5 + r) (by omega) HSW.out.1 HSW.out.2)
          have HLA := Lib.hid (dn_last (sd := sd) (k := j) (by omega))
          have HF0 := Lib.hid (dnF_fw (sd := sd) (k := j) (by omega))
          have HF1 := Lib.hid (dnF_fw (sd := sd) (k := j + 1) (by omega))
          have HG0 := Lib.hid (dnG_fw (sd := sd) (k := j) (by omega))
          have hpt : (dnQ sd j).pt = dnPt sd j := rfl
          have hsv : (dnQ sd j).sv = dnSv j := rfl
          obtain ⟨pp, hpp⟩ : ∃ pp, dnPt sd j = pp := ⟨_, rfl⟩
          obtain ⟨ss, hss⟩ : ∃ ss, dnSv j = ss := ⟨_, rfl⟩
          obtain ⟨qs, hqs⟩ : ∃ qs, (dnQ sd j).s = qs := ⟨_, rfl⟩
          rw [hpp] at HEA HWE HCA HWR HLA HPB
          rw [hss] at HEA HWE HCA HLA HSB HSW hr1
          have HQC := Lib.hid (show (([dnQ sd j] : List Qy).flatMap cQy) = [.int .i64 ss, .int .i64 pp, .string qs] by rw [← hpp, ← hss, ← hqs]; rfl)
          obtain ⟨hs5, hs7⟩ := HSB.out
          obtain ⟨hp5, hp7⟩ := HPB.out
          clear hpt hsv hpp hss hqs hr3
          obtain ⟨gq, rfl⟩ := row_some (HO.out.row 3 rfl) Nat.one_pos
          have HQR := Lib.hid (HO.out.row 3 rfl)
          go_wp2
          go_loopw [14] (fun iv wq => (iv = .int .i64 0 ∧ Own w glD wq [resF f (dnF sd j), resZ a (dnZ sd b j), glR g, rowQs (.slice (some ⟨gq, 0, none⟩) 1 vc) [dnQ sd j]]) ∨ (iv = .int .i64 1 ∧ Own w glD wq [resF f (dnF sd (j + 1)), resZ a (dnZ sd b j), glR g, rowQs (.slice (some ⟨gq, 0, none⟩) 1 vc) [dnQ sd j]])) (fun iv _ => 1 - (intOf iv).toNat)
          case atStart => exact .inl ⟨rfl, HO.out⟩
          case round =>
            clear HO HQR
            rcases hrel with ⟨rfl, hO⟩ | ⟨rfl, hO⟩
            · have HO := Lib.hid hO
              clear hO
              replace HO := Lib.hid (show Own w glD wr [resF f (dnF sd j), resZ a (dnZ sd b j), glR g, rowR (.slice (some ⟨gq, 0, none⟩) 1 vc) 37 3 1 [.int .i64 ss, .int .i64 pp, .string qs]] from by rw [← HQC.out]; exact HO.out)
              have rbF := run_bdFw pp ss
              have c0 : wr.cell? ⟨gq, 0, none⟩ = some (.int .i64 ss) := (row_cells (HO.out.row 3 rfl)).1 0 _ rfl
              have c1 : wr.cell? ⟨gq, 1, none⟩ = some (.int .i64 pp) := (row_cells (HO.out.row 3 rfl)).1 1 _ rfl
              have g0 := cell_regrown c0
              have g1 := cell_regrown c1
              go_wp2
              refine wp_region_R 12 (by kernel_rfl) (by kernel_rfl) ?_
              simp only [List.take, List.drop]
              iterate 11 (first | (refine wpR_want (by kernel_rfl) rfl rfl ?_; intro K hK; go_big_quiet_op; go_big_quiet_on) | (refine wpR_is (by kernel_rfl) rfl _ (fun w _ => rfl) ?_; simp only [Act.put, List.setIfInBounds_toArray, List.set_cons_succ, List.set_cons_zero]))
              refine wpR_ex (nblk wr.heap.size (.cells #[.int .i64 0, .int .i64 0, .int .i64 0, .int .i64 0, .int .i64 0, .bool false, .bool false, .bool false, .int .i64 0] 39)) (nblk_lasts _ _) (by kernel_rfl) (fun a' w' hw' he => ?_) (fun d hd => ?_)
              · have hs := hw'.size
                simp [go_sem]
                exact ⟨_, rfl, (Below.refl _ _).alloc (Nat.le_refl _) _, ⟨w'.heap.size, rfl, hs, new_block _ _⟩⟩
              cases hd
              simp only [List.nil_append]
              refine wpR_nil (by kernel_rfl) (by simp) ?_
              rintro x9 hbw
              simp only [exAll]
              rintro u15 ⟨bx, rfl, hgebx, hbbbx⟩
              simp only [Act.put, List.setIfInBounds_toArray, List.set_cons_succ, List.set_cons_zero, List.drop]
              have hO := HO.out.push (R := blkR bx (.cells #[.int .i64 0, .int .i64 0, .int .i64 0, .int .i64 0, .int .i64 0, .bool false, .bool false, .bool false, .int .i64 0] 39)) (F := fun z => z = bx) ⟨fun _ => Iff.rfl, hbbbx⟩ (fun z hz => hz ▸ hgebx) hbw
              clear hgebx hbbbx
              replace HO := Lib.hid (show Own w glD x9 [resF f (dnF sd j), resZ a (dnZ sd b j), glR g, rowR (.slice (some ⟨gq, 0, none⟩) 1 vc) 37 3 1 [.int .i64 ss, .int .i64 pp, .string qs], blkR bx (.cells #[.int .i64 0, .int .i64 0, .int .i64 0, .int .i64 0, .int .i64 0, .bool false, .bool false, .bool false, .int .i64 0] 39)] from hO)
              clear hO hbw g0 g1 c0 c1 
              have k4_0_101 : x9.cell? ⟨bx, 0, none⟩ = some (.int .i64 0) := HO.out.cell 4 rfl 0 rfl
              have lk4_0_101 : x9.frozen? ⟨bx, 0, none⟩ = false := HO.out.frz 4 rfl 0
              have k4_1_102 : x9.cell? ⟨bx, 1, none⟩ = some (.int .i64 0) := HO.out.cell 4 rfl 1 rfl
              have lk4_1_102 : x9.frozen? ⟨bx, 1, none⟩ = false := HO.out.frz 4 rfl 1
              have k4_2_103 : x9.cell? ⟨bx, 2, none⟩ = some (.int .i64 0) := HO.out.cell 4 rfl 2 rfl
              have lk4_2_103 : x9.frozen? ⟨bx, 2, none⟩ = false := HO.out.frz 4 rfl 2
              have k4_3_104 : x9.cell? ⟨bx, 3, none⟩ = some (.int .i64 0) := HO.out.cell 4 rfl 3 rfl
              have lk4_3_104 : x9.frozen? ⟨bx, 3, none⟩ = false := HO.out.frz 4 rfl 3
              have k4_4_105 : x9.cell? ⟨bx, 4, none⟩ = some (.int .i64 0) := HO.out.cell 4 rfl 4 rfl
              have lk4_4_105 : x9.frozen? ⟨bx, 4, none⟩ = false := HO.out.frz 4 rfl 4
              have k4_5_106 : x9.cell? ⟨bx, 5, none⟩ = some (.bool false) := HO.out.cell 4 rfl 5 rfl
              have lk4_5_106 : x9.frozen? ⟨bx, 5, none⟩ = false := HO.out.frz 4 rfl 5
              have k4_6_107 : x9.cell? ⟨bx, 6, none⟩ = some (.bool false) := HO.out.cell 4 rfl 6 rfl
              have lk4_6_107 : x9.frozen? ⟨bx, 6, none⟩ = false := HO.out.frz 4 rfl 6
              have k4_7_108 : x9.cell? ⟨bx, 7, none⟩ = some (.bool false) := HO.out.cell 4 rfl 7 rfl
              have lk4_7_108 : x9.frozen? ⟨bx, 7, none⟩ = false := HO.out.frz 4 rfl 7
              have k4_8_109 : x9.cell? ⟨bx, 8, none⟩ = some (.int .i64 0) := HO.out.cell 4 rfl 8 rfl
              have lk4_8_109 : x9.frozen? ⟨bx, 8, none⟩ = false := HO.out.frz 4 rfl 8
              obtain ⟨x110, hx110⟩ : ∃ y, x9.setCell ⟨bx, 0, none⟩ (.int .i64 17) = y := ⟨_, rfl⟩
              have hO := HO.out.setCell 4 rfl 0 (.int .i64 17)
              rw [hx110] at hO
              replace HO := Lib.hid (show Own w glD x110 [resF f (dnF sd j), resZ a (dnZ sd b j), glR g, rowR (.slice (some ⟨gq, 0, none⟩) 1 vc) 37 3 1 [.int .i64 ss, .int .i64 pp, .string qs], blkR bx (.cells #[.int .i64 17, .int .i64 0, .int .i64 0, .int .i64 0, .int .i64 0, .bool false, .bool false, .bool false, .int .i64 0] 39)] from hO)
              clear hO
              have k4_1_111 : x110.cell? ⟨bx, 1, none⟩ = some (.int .i64 0) := HO.out.cell 4 rfl 1 rfl
              have lk4_1_111 : x110.frozen? ⟨bx, 1, none⟩ = false := HO.out.frz 4 rfl 1
              have k4_2_112 : x110.cell? ⟨bx, 2, none⟩ = some (.int .i64 0) := HO.out.cell 4 rfl 2 rfl
              have lk4_2_112 : x110.frozen? ⟨bx, 2, none⟩ = false := HO.out.frz 4 rfl 2
              have k4_3_113 : x110.cell? ⟨bx, 3, none⟩ = some (.int .i64 0) := HO.out.cell 4 rfl 3 rfl
              have lk4_3_113 : x110.frozen? ⟨bx, 3, none⟩ = false := HO.out.frz 4 rfl 3
              have k4_4_114 : x110.cell? ⟨bx, 4, none⟩ = some (.int .i64 0) := HO.out.cell 4 rfl 4 rfl
              have lk4_4_114 : x110.frozen? ⟨bx, 4, none⟩ = false := HO.out.frz 4 rfl 4
              have k4_5_115 : x110.cell? ⟨bx, 5, none⟩ = some (.bool false) := HO.out.cell 4 rfl 5 rfl
              have lk4_5_115 : x110.frozen? ⟨bx, 5, none⟩ = false := HO.out.frz 4 rfl 5
              have k4_6_116 : x110.cell? ⟨bx, 6, none⟩ = some (.bool false) := HO.out.cell 4 rfl 6 rfl
              have lk4_6_116 : x110.frozen? ⟨bx, 6, none⟩ = false := HO.out.frz 4 rfl 6
              have k4_7_117 : x110.cell? ⟨bx, 7, none⟩ = some (.bool false) := HO.out.cell 4 rfl 7 rfl
              have lk4_7_117 : x110.frozen? ⟨bx, 7, none⟩ = false := HO.out.frz 4 rfl 7
              have k4_8_118 : x110.cell? ⟨bx, 8, none⟩ = some (.int .i64 0) := HO.out.cell 4 rfl 8 rfl
              have lk4_8_118 : x110.frozen? ⟨bx, 8, none⟩ = false := HO.out.frz 4 rfl 8
              obtain ⟨x119, hx119⟩ : ∃ y, x110.setCell ⟨bx, 1, none⟩ (.int .i64 9) = y := ⟨_, rfl⟩
              have hO := HO.out.setCell 4 rfl 1 (.int .i64 9)
              rw [hx119] at hO
              replace HO := Lib.hid (show Own w glD x119 [resF f (dnF sd j), resZ a (dnZ sd b j), glR g, rowR (.slice (some ⟨gq, 0, none⟩) 1 vc) 37 3 1 [.int .i64 ss, .int .i64 pp, .string qs], blkR bx (.cells #[.int .i64 17, .int .i64 9, .int .i64 0, .int .i64 0, .int .i64 0, .bool false, .bool false, .bool false, .int .i64 0] 39)] from hO)
              clear hO
              have k4_2_120 : x119.cell? ⟨bx, 2, none⟩ = some (.int .i64 0) := HO.out.cell 4 rfl 2 rfl
              have lk4_2_120 : x119.frozen? ⟨bx, 2, none⟩ = false := HO.out.frz 4 rfl 2
              have k4_3_121 : x119.cell? ⟨bx, 3, none⟩ = some (.int .i64 0) := HO.out.cell 4 rfl 3 rfl
              have lk4_3_121 : x119.frozen? ⟨bx, 3, none⟩ = false := HO.out.frz 4 rfl 3
              have k4_4_122 : x119.cell? ⟨bx, 4, none⟩ = some (.int .i64 0) := HO.out.cell 4 rfl 4 rfl
              have lk4_4_122 : x119.frozen? ⟨bx, 4, none⟩ = false := HO.out.frz 4 rfl 4
              have k4_5_123 : x119.cell? ⟨bx, 5, none⟩ = some (.bool false) := HO.out.cell 4 rfl 5 rfl
              have lk4_5_123 : x119.frozen? ⟨bx, 5, none⟩ = false := HO.out.frz 4 rfl 5
              have k4_6_124 : x119.cell? ⟨bx, 6, none⟩ = some (.bool false) := HO.out.cell 4 rfl 6 rfl
              have lk4_6_124 : x119.frozen? ⟨bx, 6, none⟩ = false := HO.out.frz 4 rfl 6
              have k4_7_125 : x119.cell? ⟨bx, 7, none⟩ = some (.bool false) := HO.out.cell 4 rfl 7 rfl
              have lk4_7_125 : x119.frozen? ⟨bx, 7, none⟩ = false := HO.out.frz 4 rfl 7
              have k4_8_126 : x119.cell? ⟨bx, 8, none⟩ = some (.int .i64 0) := HO.out.cell 4 rfl 8 rfl
              have lk4_8_126 : x119.frozen? ⟨bx, 8, none⟩ = false := HO.out.frz 4 rfl 8
              obtain ⟨x127, hx127⟩ : ∃ y, x119.setCell ⟨bx, 2, none⟩ (.int .i64 pp) = y := ⟨_, rfl⟩
              have hO := HO.out.setCell 4 rfl 2 (.int .i64 pp)
              rw [hx127] at hO
              replace HO := Lib.hid (show Own w glD x127 [resF f (dnF sd j), resZ a (dnZ sd b j), glR g, rowR (.slice (some ⟨gq, 0, none⟩) 1 vc) 37 3 1 [.int .i64 ss, .int .i64 pp, .string qs], blkR bx (.cells #[.int .i64 17, .int .i64 9, .int .i64 pp, .int .i64 0, .int .i64 0, .bool false, .bool false, .bool false, .int .i64 0] 39)] from hO)
              clear hO
              have k4_3_128 : x127.cell? ⟨bx, 3, none⟩ = some (.int .i64 0) := HO.out.cell 4 rfl 3 rfl
              have lk4_3_128 : x127.frozen? ⟨bx, 3, none⟩ = false := HO.out.frz 4 rfl 3
              have k4_4_129 : x127.cell? ⟨bx, 4, none⟩ = some (.int .i64 0) := HO.out.cell 4 rfl 4 rfl
              have lk4_4_129 : x127.frozen? ⟨bx, 4, none⟩ = false := HO.out.frz 4 rfl 4
              have k4_5_130 : x127.cell? ⟨bx, 5, none⟩ = some (.bool false) := HO.out.cell 4 rfl 5 rfl
              have lk4_5_130 : x127.frozen? ⟨bx, 5, none⟩ = false := HO.out.frz 4 rfl 5
              have k4_6_131 : x127.cell? ⟨bx, 6, none⟩ = some (.bool false) := HO.out.cell 4 rfl 6 rfl
              have lk4_6_131 : x127.frozen? ⟨bx, 6, none⟩ = false := HO.out.frz 4 rfl 6
              have k4_7_132 : x127.cell? ⟨bx, 7, none⟩ = some (.bool false) := HO.out.cell 4 rfl 7 rfl
              have lk4_7_132 : x127.frozen? ⟨bx, 7, none⟩ = false := HO.out.frz 4 rfl 7
              have k4_8_133 : x127.cell? ⟨bx, 8, none⟩ = some (.int .i64 0) := HO.out.cell 4 rfl 8 rfl
              have lk4_8_133 : x127.frozen? ⟨bx, 8, none⟩ = false := HO.out.frz 4 rfl 8
              obtain ⟨x134, hx134⟩ : ∃ y, x127.setCell ⟨bx, 3, none⟩ (.int .i64 ss) = y := ⟨_, rfl⟩
              have hO := HO.out.setCell 4 rfl 3 (.int .i64 ss)
              rw [hx134] at hO
              replace HO := Lib.hid (show Own w glD x134 [resF f (dnF sd j), resZ a (dnZ sd b j), glR g, rowR (.slice (some ⟨gq, 0, none⟩) 1 vc) 37 3 1 [.int .i64 ss, .int .i64 pp, .string qs], blkR bx (.cells #[.int .i64 17, .int .i64 9, .int .i64 pp, .int .i64 ss, .int .i64 0, .bool false, .bool false, .bool false, .int .i64 0] 39)] from hO)
              clear hO
              have k4_4_135 : x134.cell? ⟨bx, 4, none⟩ = some (.int .i64 0) := HO.out.cell 4 rfl 4 rfl
              have lk4_4_135 : x134.frozen? ⟨bx, 4, none⟩ = false := HO.out.frz 4 rfl 4
              have k4_5_136 : x134.cell? ⟨bx, 5, none⟩ = some (.bool false) := HO.out.cell 4 rfl 5 rfl
              have lk4_5_136 : x134.frozen? ⟨bx, 5, none⟩ = false := HO.out.frz 4 rfl 5
              have k4_6_137 : x134.cell? ⟨bx, 6, none⟩ = some (.bool false) := HO.out.cell 4 rfl 6 rfl
              have lk4_6_137 : x134.frozen? ⟨bx, 6, none⟩ = false := HO.out.frz 4 rfl 6
              have k4_7_138 : x134.cell? ⟨bx, 7, none⟩ = some (.bool false) := HO.out.cell 4 rfl 7 rfl
              have lk4_7_138 : x134.frozen? ⟨bx, 7, none⟩ = false := HO.out.frz 4 rfl 7
              have k4_8_139 : x134.cell? ⟨bx, 8, none⟩ = some (.int .i64 0) := HO.out.cell 4 rfl 8 rfl
              have lk4_8_139 : x134.frozen? ⟨bx, 8, none⟩ = false := HO.out.frz 4 rfl 8
              obtain ⟨x140, hx140⟩ : ∃ y, x134.setCell ⟨bx, 4, none⟩ (.int .i64 53) = y := ⟨_, rfl⟩
              have hO := HO.out.setCell 4 rfl 4 (.int .i64 53)
              rw [hx140] at hO
              replace HO := Lib.hid (show Own w glD x140 [resF f (dnF sd j), resZ a (dnZ sd b j), glR g, rowR (.slice (some ⟨gq, 0, none⟩) 1 vc) 37 3 1 [.int .i64 ss, .int .i64 pp, .string qs], blkR bx (.cells #[.int .i64 17, .int .i64 9, .int .i64 pp, .int .i64 ss, .int .i64 53, .bool false, .bool false, .bool false, .int .i64 0] 39)] from hO)
              clear hO
              have k4_5_141 : x140.cell? ⟨bx, 5, none⟩ = some (.bool false) := HO.out.cell 4 rfl 5 rfl
              have lk4_5_141 : x140.frozen? ⟨bx, 5, none⟩ = false := HO.out.frz 4 rfl 5
              have k4_6_142 : x140.cell? ⟨bx, 6, none⟩ = some (.bool false) := HO.out.cell 4 rfl 6 rfl
              have lk4_6_142 : x140.frozen? ⟨bx, 6, none⟩ = false := HO.out.frz 4 rfl 6
              have k4_7_143 : x140.cell? ⟨bx, 7, none⟩ = some (.bool false) := HO.out.cell 4 rfl 7 rfl
              have lk4_7_143 : x140.frozen? ⟨bx, 7, none⟩ = false := HO.out.frz 4 rfl 7
              have k4_8_144 : x140.cell? ⟨bx, 8, none⟩ = some (.int .i64 0) := HO.out.cell 4 rfl 8 rfl
              have lk4_8_144 : x140.frozen? ⟨bx, 8, none⟩ = false := HO.out.frz 4 rfl 8
              obtain ⟨x145, hx145⟩ : ∃ y, x140.setCell ⟨bx, 5, none⟩ (.bool false) = y := ⟨_, rfl⟩
              have hO := HO.out.setCell 4 rfl 5 (.bool false)
              rw [hx145] at hO
              replace HO := Lib.hid (show Own w glD x145 [resF f (dnF sd j), resZ a (dnZ sd b j), glR g, rowR (.slice (some ⟨gq, 0, none⟩) 1 vc) 37 3 1 [.int .i64 ss, .int .i64 pp, .string qs], blkR bx (.cells #[.int .i64 17, .int .i64 9, .int .i64 pp, .int .i64 ss, .int .i64 53, .bool false, .bool false, .bool false, .int .i64 0] 39)] from hO)
              clear hO
              have k4_6_146 : x145.cell? ⟨bx, 6, none⟩ = some (.bool false) := HO.out.cell 4 rfl 6 rfl
              have lk4_6_146 : x145.frozen? ⟨bx, 6, none⟩ = false := HO.out.frz 4 rfl 6
              have k4_7_147 : x145.cell? ⟨bx, 7, none⟩ = some (.bool false) := HO.out.cell 4 rfl 7 rfl
              have lk4_7_147 : x145.frozen? ⟨bx, 7, none⟩ = false := HO.out.frz 4 rfl 7
              have k4_8_148 : x145.cell? ⟨bx, 8, none⟩ = some (.int .i64 0) := HO.out.cell 4 rfl 8 rfl
              have lk4_8_148 : x145.frozen? ⟨bx, 8, none⟩ = false := HO.out.frz 4 rfl 8
              obtain ⟨x149, hx149⟩ : ∃ y, x145.setCell ⟨bx, 6, none⟩ (.bool false) = y := ⟨_, rfl⟩
              have hO := HO.out.setCell 4 rfl 6 (.bool false)
              rw [hx149] at hO
              replace HO := Lib.hid (show Own w glD x149 [resF f (dnF sd j), resZ a (dnZ sd b j), glR g, rowR (.slice (some ⟨gq, 0, none⟩) 1 vc) 37 3 1 [.int .i64 ss, .int .i64 pp, .string qs], blkR bx (.cells #[.int .i64 17, .int .i64 9, .int .i64 pp, .int .i64 ss, .int .i64 53, .bool false, .bool false, .bool false, .int .i64 0] 39)] from hO)
              clear hO
              have k4_7_150 : x149.cell? ⟨bx, 7, none⟩ = some (.bool false) := HO.out.cell 4 rfl 7 rfl
              have lk4_7_150 : x149.frozen? ⟨bx, 7, none⟩ = false := HO.out.frz 4 rfl 7
              have k4_8_151 : x149.cell? ⟨bx, 8, none⟩ = some (.int .i64 0) := HO.out.cell 4 rfl 8 rfl
              have lk4_8_151 : x149.frozen? ⟨bx, 8, none⟩ = false := HO.out.frz 4 rfl 8
              obtain ⟨x152, hx152⟩ : ∃ y, x149.setCell ⟨bx, 7, none⟩ (.bool false) = y := ⟨_, rfl⟩
              have hO := HO.out.setCell 4 rfl 7 (.bool false)
              rw [hx152] at hO
              replace HO := Lib.hid (show Own w glD x152 [resF f (dnF sd j), resZ a (dnZ sd b j), glR g, rowR (.slice (some ⟨gq, 0, none⟩) 1 vc) 37 3 1 [.int .i64 ss, .int .i64 pp, .string qs], blkR bx (.cells #[.int .i64 17, .int .i64 9, .int .i64 pp, .int .i64 ss, .int .i64 53, .bool false, .bool false, .bool false, .int .i64 0] 39)] from hO)
              clear hO
              have k4_8_153 : x152.cell? ⟨bx, 8, none⟩ = some (.int .i64 0) := HO.out.cell 4 rfl 8 rfl
              have lk4_8_153 : x152.frozen? ⟨bx, 8, none⟩ = false := HO.out.frz 4 rfl 8
              obtain ⟨x154, hx154⟩ : ∃ y, x152.setCell ⟨bx, 8, none⟩ (.int .i64 0) = y := ⟨_, rfl⟩
              have hO := HO.out.setCell 4 rfl 8 (.int .i64 0)
              rw [hx154] at hO
              replace HO := Lib.hid (show Own w glD x154 [resF f (dnF sd j), resZ a (dnZ sd b j), glR g, rowR (.slice (some ⟨gq, 0, none⟩) 1 vc) 37 3 1 [.int .i64 ss, .int .i64 pp, .string qs], blkR bx (.cells #[.int .i64 17, .int .i64 9, .int .i64 pp, .int .i64 ss, .int .i64 53, .bool false, .bool false, .bool false, .int .i64 0] 39)] from hO)
              clear hO
              have z4_0 : x154.cell? ⟨bx, 0, none⟩ = some (.int .i64 17) := HO.out.cell 4 rfl 0 rfl
              have z4_1 : x154.cell? ⟨bx, 1, none⟩ = some (.int .i64 9) := HO.out.cell 4 rfl 1 rfl
              have z4_2 : x154.cell? ⟨bx, 2, none⟩ = some (.int .i64 pp) := HO.out.cell 4 rfl 2 rfl
              have z4_3 : x154.cell? ⟨bx, 3, none⟩ = some (.int .i64 ss) := HO.out.cell 4 rfl 3 rfl
              have z4_4 : x154.cell? ⟨bx, 4, none⟩ = some (.int .i64 53) := HO.out.cell 4 rfl 4 rfl
              have z4_5 : x154.cell? ⟨bx, 5, none⟩ = some (.bool false) := HO.out.cell 4 rfl 5 rfl
              have z4_6 : x154.cell? ⟨bx, 6, none⟩ = some (.bool false) := HO.out.cell 4 rfl 6 rfl
              have z4_7 : x154.cell? ⟨bx, 7, none⟩ = some (.bool false) := HO.out.cell 4 rfl 7 rfl
              have z4_8 : x154.cell? ⟨bx, 8, none⟩ = some (.int .i64 0) := HO.out.cell 4 rfl 8 rfl
              go_wp2_with fail
              refine (did_f (T := 1000) (N := 20) (how := 2) (now := (t : Int)) (x := ⟨17, 9, pp, ss, 53, false, false, false, 0⟩) (r := false) (st := dnF sd j) (st' := dnF sd j) HO.out 0 rfl (by have := HEA.out; rw [← HT2.out] at this; exact this) HF0.out.1 HF0.out.2 (by omega) (by omega) (by unfold timeB; omega) (by unfold i64B; omega)).mono ?_
              rintro e x155 ⟨rfl, hO, -⟩
              replace HO := Lib.hid (show Own w glD x155 [resF f (dnF sd j), resZ a (dnZ sd b j), glR g, rowR (.slice (some ⟨gq, 0, none⟩) 1 vc) 37 3 1 [.int .i64 ss, .int .i64 pp, .string qs], blkR bx (.cells #[.int .i64 17, .int .i64 9, .int .i64 pp, .int .i64 ss, .int .i64 53, .bool false, .bool false, .bool false, .int .i64 0] 39)] from hO)
              clear hO
              clear k4_0_101 lk4_0_101 k4_1_102 lk4_1_102 k4_2_103 lk4_2_103 k4_3_104 lk4_3_104 k4_4_105 lk4_4_105 k4_5_106 lk4_5_106 k4_6_107 lk4_6_107 k4_7_108 lk4_7_108 k4_8_109 lk4_8_109 hx110 k4_1_111 lk4_1_111 k4_2_112 lk4_2_112 k4_3_113 lk4_3_113 k4_4_114 lk4_4_114 k4_5_115 lk4_5_115 k4_6_116 lk4_6_116 k4_7_117 lk4_7_117 k4_8_118 lk4_8_118 hx119 k4_2_120 lk4_2_120 k4_3_121 lk4_3_121 k4_4_122 lk4_4_122 k4_5_123 lk4_5_123 k4_6_124 lk4_6_124 k4_7_125 lk4_7_125 k4_8_126 lk4_8_126 hx127 k4_3_128 lk4_3_128 k4_4_129 lk4_4_129 k4_5_130 lk4_5_130 k4_6_131 lk4_6_131 k4_7_132 lk4_7_132 k4_8_133 lk4_8_133 hx134 k4_4_135 lk4_4_135 k4_5_136 lk4_5_136 k4_6_137 lk4_6_137 k4_7_138 lk4_7_138 k4_8_139 lk4_8_139 hx140 k4_5_141 lk4_5_141 k4_6_142 lk4_6_142 k4_7_143 lk4_7_143 k4_8_144 lk4_8_144 hx145 k4_6_146 lk4_6_146 k4_7_147 lk4_7_147 k4_8_148 lk4_8_148 hx149 k4_7_150 lk4_7_150 k4_8_151 lk4_8_151 hx152 k4_8_153 lk4_8_153 hx154 z4_0 z4_1 z4_2 z4_3 z4_4 z4_5 z4_6 z4_7 z4_8
              have z4_0 : x155.cell? ⟨bx, 0, none⟩ = some (.int .i64 17) := HO.out.cell 4 rfl 0 rfl
              have z4_1 : x155.cell? ⟨bx, 1, none⟩ = some (.int .i64 9) := HO.out.cell 4 rfl 1 rfl
              have z4_2 : x155.cell? ⟨bx, 2, none⟩ = some (.int .i64 pp) := HO.out.cell 4 rfl 2 rfl
              have z4_3 : x155.cell? ⟨bx, 3, none⟩ = some (.int .i64 ss) := HO.out.cell 4 rfl 3 rfl
              have z4_4 : x155.cell? ⟨bx, 4, none⟩ = some (.int .i64 53) := HO.out.cell 4 rfl 4 rfl
              have z4_5 : x155.cell? ⟨bx, 5, none⟩ = some (.bool false) := HO.out.cell 4 rfl 5 rfl
              have z4_6 : x155.cell? ⟨bx, 6, none⟩ = some (.bool false) := HO.out.cell 4 rfl 6 rfl
              have z4_7 : x155.cell? ⟨bx, 7, none⟩ = some (.bool false) := HO.out.cell 4 rfl 7 rfl
              have z4_8 : x155.cell? ⟨bx, 8, none⟩ = some (.int .i64 0) := HO.out.cell 4 rfl 8 rfl
              go_wp2_with fail
              refine (did_f (T := 1000) (N := 20) (how := 0) (now := (t : Int)) (x := ⟨17, 9, pp, ss, 53, false, false, false, 0⟩) (r := true) (st := dnF sd j) (st' := dnG sd j) HO.out 0 rfl (by have := HWE.out; rw [← HT2.out] at this; exact this) HF0.out.1 HF0.out.2 (by omega) (by omega) (by unfold timeB; omega) (by unfold i64B; omega)).mono ?_
              rintro e x156 ⟨rfl, hO, -⟩
              replace HO := Lib.hid (show Own w glD x156 [resF f (dnG sd j), resZ a (dnZ sd b j), glR g, rowR (.slice (some ⟨gq, 0, none⟩) 1 vc) 37 3 1 [.int .i64 ss, .int .i64 pp, .string qs], blkR bx (.cells #[.int .i64 17, .int .i64 9, .int .i64 pp, .int .i64 ss, .int .i64 53, .bool false, .bool false, .bool false, .int .i64 0] 39)] from hO)
              clear hO
              clear z4_0 z4_1 z4_2 z4_3 z4_4 z4_5 z4_6 z4_7 z4_8
              have z4_0 : x156.cell? ⟨bx, 0, none⟩ = some (.int .i64 17) := HO.out.cell 4 rfl 0 rfl
              have z4_1 : x156.cell? ⟨bx, 1, none⟩ = some (.int .i64 9) := HO.out.cell 4 rfl 1 rfl
              have z4_2 : x156.cell? ⟨bx, 2, none⟩ = some (.int .i64 pp) := HO.out.cell 4 rfl 2 rfl
              have z4_3 : x156.cell? ⟨bx, 3, none⟩ = some (.int .i64 ss) := HO.out.cell 4 rfl 3 rfl
              have z4_4 : x156.cell? ⟨bx, 4, none⟩ = some (.int .i64 53) := HO.out.cell 4 rfl 4 rfl
              have z4_5 : x156.cell? ⟨bx, 5, none⟩ = some (.bool false) := HO.out.cell 4 rfl 5 rfl
              have z4_6 : x156.cell? ⟨bx, 6, none⟩ = some (.bool false) := HO.out.cell 4 rfl 6 rfl
              have z4_7 : x156.cell? ⟨bx, 7, none⟩ = some (.bool false) := HO.out.cell 4 rfl 7 rfl
              have z4_8 : x156.cell? ⟨bx, 8, none⟩ = some (.int .i64 0) := HO.out.cell 4 rfl 8 rfl
              go_wp2_with fail
              refine (did_f (T := 1000) (N := 20) (how := 2) (now := (t : Int) + 1) (x := ⟨17, 9, pp, ss, 53, false, false, false, 0⟩) (r := true) (st := dnG sd j) (st' := dnF sd (j + 1)) HO.out 0 rfl (by have := HCA.out; rw [← HT2.out] at this; exact this) HG0.out.1 HG0.out.2 (by omega) (by omega) (by unfold timeB; omega) (by unfold i64B; omega)).mono ?_
              rintro e x157 ⟨rfl, hO, -⟩
              replace HO := Lib.hid (show Own w glD x157 [resF f (dnF sd (j + 1)), resZ a (dnZ sd b j), glR g, rowR (.slice (some ⟨gq, 0, none⟩) 1 vc) 37 3 1 [.int .i64 ss, .int .i64 pp, .string qs], blkR bx (.cells #[.int .i64 17, .int .i64 9, .int .i64 pp, .int .i64 ss, .int .i64 53, .bool false, .bool false, .bool false, .int .i64 0] 39)] from hO)
              clear hO
              clear z4_0 z4_1 z4_2 z4_3 z4_4 z4_5 z4_6 z4_7 z4_8
              have hsub := hr1
              have c0 : x157.cell? ⟨gq, 0, none⟩ = some (.int .i64 ss) := (row_cells (HO.out.row 3 rfl)).1 0 _ rfl
              have y4_3 : x157.frozen? ⟨bx, 3, none⟩ = false := HO.out.frz 4 rfl 3
              have z4_3 : x157.cell? ⟨bx, 3, none⟩ = some (.int .i64 ss) := HO.out.cell 4 rfl 3 rfl
              obtain ⟨x158, hx158⟩ : ∃ y, x157.setCell ⟨bx, 3, none⟩ (.int .i64 (5 + r)) = y := ⟨_, rfl⟩
              have hO := HO.out.setCell 4 rfl 3 (.int .i64 (5 + r))
              rw [hx158] at hO
              replace HO := Lib.hid (show Own w glD x158 [resF f (dnF sd (j + 1)), resZ a (dnZ sd b j), glR g, rowR (.slice (some ⟨gq, 0, none⟩) 1 vc) 37 3 1 [.int .i64 ss, .int .i64 pp, .string qs], blkR bx (.cells #[.int .i64 17, .int .i64 9, .int .i64 pp, .int .i64 (5 + r), .int .i64 53, .bool false, .bool false, .bool false, .int .i64 0] 39)] from hO)
              clear hO
              have z4_0 : x158.cell? ⟨bx, 0, none⟩ = some (.int .i64 17) := HO.out.cell 4 rfl 0 rfl
              have z4_1 : x158.cell? ⟨bx, 1, none⟩ = some (.int .i64 9) := HO.out.cell 4 rfl 1 rfl
              have z4_2 : x158.cell? ⟨bx, 2, none⟩ = some (.int .i64 pp) := HO.out.cell 4 rfl 2 rfl
              have z4_3t : x158.cell? ⟨bx, 3, none⟩ = some (.int .i64 (5 + r)) := HO.out.cell 4 rfl 3 rfl
              have z4_4 : x158.cell? ⟨bx, 4, none⟩ = some (.int .i64 53) := HO.out.cell 4 rfl 4 rfl
              have z4_5 : x158.cell? ⟨bx, 5, none⟩ = some (.bool false) := HO.out.cell 4 rfl 5 rfl
              have z4_6 : x158.cell? ⟨bx, 6, none⟩ = some (.bool false) := HO.out.cell 4 rfl 6 rfl
              have z4_7 : x158.cell? ⟨bx, 7, none⟩ = some (.bool false) := HO.out.cell 4 rfl 7 rfl
              have z4_8 : x158.cell? ⟨bx, 8, none⟩ = some (.int .i64 0) := HO.out.cell 4 rfl 8 rfl
              go_wp2_with fail
              refine (did_f (T := 1000) (N := 20) (how := 2) (now := (t : Int) + 1) (x := ⟨17, 9, pp, (5 + r), 53, false, false, false, 0⟩) (r := false) (st := dnF sd (j + 1)) (st' := dnF sd (j + 1)) HO.out 0 rfl (by have := HWR.out; rw [← HT2.out] at this; exact this) HF1.out.1 HF1.out.2 (by omega) (by omega) (by unfold timeB; omega) (by unfold i64B; omega)).mono ?_
              rintro e x159 ⟨rfl, hO, -⟩
              replace HO := Lib.hid (show Own w glD x159 [resF f (dnF sd (j + 1)), resZ a (dnZ sd b j), glR g, rowR (.slice (some ⟨gq, 0, none⟩) 1 vc) 37 3 1 [.int .i64 ss, .int .i64 pp, .string qs], blkR bx (.cells #[.int .i64 17, .int .i64 9, .int .i64 pp, .int .i64 (5 + r), .int .i64 53, .bool false, .bool false, .bool false, .int .i64 0] 39)] from hO)
              clear hO
              clear c0 y4_3 z4_3 hx158 z4_0 z4_1 z4_2 z4_3t z4_4 z4_5 z4_6 z4_7 z4_8
              have c0 : x159.cell? ⟨gq, 0, none⟩ = some (.int .i64 ss) := (row_cells (HO.out.row 3 rfl)).1 0 _ rfl
              have y4_3 : x159.frozen? ⟨bx, 3, none⟩ = false := HO.out.frz 4 rfl 3
              have z4_3 : x159.cell? ⟨bx, 3, none⟩ = some (.int .i64 (5 + r)) := HO.out.cell 4 rfl 3 rfl
              obtain ⟨x160, hx160⟩ : ∃ y, x159.setCell ⟨bx, 3, none⟩ (.int .i64 ss) = y := ⟨_, rfl⟩
              have hO := HO.out.setCell 4 rfl 3 (.int .i64 ss)
              rw [hx160] at hO
              replace HO := Lib.hid (show Own w glD x160 [resF f (dnF sd (j + 1)), resZ a (dnZ sd b j), glR g, rowR (.slice (some ⟨gq, 0, none⟩) 1 vc) 37 3 1 [.int .i64 ss, .int .i64 pp, .string qs], blkR bx (.cells #[.int .i64 17, .int .i64 9, .int .i64 pp, .int .i64 ss, .int .i64 53, .bool false, .bool false, .bool false, .int .i64 0] 39)] from hO)
              clear hO
              have y4_4 : x160.frozen? ⟨bx, 4, none⟩ = false := HO.out.frz 4 rfl 4
              have z4_4 : x160.cell? ⟨bx, 4, none⟩ = some (.int .i64 53) := HO.out.cell 4 rfl 4 rfl
              obtain ⟨x161, hx161⟩ : ∃ y, x160.setCell ⟨bx, 4, none⟩ (.int .i64 54) = y := ⟨_, rfl⟩
              have hO := HO.out.setCell 4 rfl 4 (.int .i64 54)
              rw [hx161] at hO
              replace HO := Lib.hid (show Own w glD x161 [resF f (dnF sd (j + 1)), resZ a (dnZ sd b j), glR g, rowR (.slice (some ⟨gq, 0, none⟩) 1 vc) 37 3 1 [.int .i64 ss, .int .i64 pp, .string qs], blkR bx (.cells #[.int .i64 17, .int .i64 9, .int .i64 pp, .int .i64 ss, .int .i64 54, .bool false, .bool false, .bool false, .int .i64 0] 39)] from hO)
              clear hO
              have z4_0 : x161.cell? ⟨bx, 0, none⟩ = some (.int .i64 17) := HO.out.cell 4 rfl 0 rfl
              have z4_1 : x161.cell? ⟨bx, 1, none⟩ = some (.int .i64 9) := HO.out.cell 4 rfl 1 rfl
              have z4_2 : x161.cell? ⟨bx, 2, none⟩ = some (.int .i64 pp) := HO.out.cell 4 rfl 2 rfl
              have z4_3t : x161.cell? ⟨bx, 3, none⟩ = some (.int .i64 ss) := HO.out.cell 4 rfl 3 rfl
              have z4_4t : x161.cell? ⟨bx, 4, none⟩ = some (.int .i64 54) := HO.out.cell 4 rfl 4 rfl
              have z4_5 : x161.cell? ⟨bx, 5, none⟩ = some (.bool false) := HO.out.cell 4 rfl 5 rfl
              have z4_6 : x161.cell? ⟨bx, 6, none⟩ = some (.bool false) := HO.out.cell 4 rfl 6 rfl
              have z4_7 : x161.cell? ⟨bx, 7, none⟩ = some (.bool false) := HO.out.cell 4 rfl 7 rfl
              have z4_8 : x161.cell? ⟨bx, 8, none⟩ = some (.int .i64 0) := HO.out.cell 4 rfl 8 rfl
              go_wp2_with fail
              refine (did_f (T := 1000) (N := 20) (how := 2) (now := (t : Int) + 1) (x := ⟨17, 9, pp, ss, 54, false, false, false, 0⟩) (r := false) (st := dnF sd (j + 1)) (st' := dnF sd (j + 1)) HO.out 0 rfl (by have := HLA.out; rw [← HT2.out] at this; exact this) HF1.out.1 HF1.out.2 (by omega) (by omega) (by unfold timeB; omega) (by unfold i64B; omega)).mono ?_
              rintro e x162 ⟨rfl, hO, -⟩
              replace HO := Lib.hid (show Own w glD x162 [resF f (dnF sd (j + 1)), resZ a (dnZ sd b j), glR g, rowR (.slice (some ⟨gq, 0, none⟩) 1 vc) 37 3 1 [.int .i64 ss, .int .i64 pp, .string qs], blkR bx (.cells #[.int .i64 17, .int .i64 9, .int .i64 pp, .int .i64 ss, .int .i64 54, .bool false, .bool false, .bool false, .int .i64 0] 39)] from hO)
              clear hO
              clear c0 y4_3 z4_3 hx160 y4_4 z4_4 hx161 z4_0 z4_1 z4_2 z4_3t z4_4t z4_5 z4_6 z4_7 z4_8
              go_wp2
              go_roundw
              case rel => exact .inr ⟨by go_num, by rw [← HQC.out] at HO; exact HO.out.take 4⟩
              case measure => simp [intOf]
            · have HO := Lib.hid hO
              clear hO
              go_wp2
              go_roundw
              case rel => exact ⟨t + 1, dnZ sd b j, [dnQ sd j], dnF sd (j + 1), by go_num, by have := HJ.out; omega, by rw [HJ.out.2]; exact dn_after HJ.out.1, HO.out⟩
              case measure => simp [intOf]; omega
        · have HPN := Lib.hid hph2
          clear hph2
          go_wp2
          go_loopw [14] (fun iv wq => iv = .int .i64 0 ∧ Own w glD wq [resF f st, resZ a z2, glR g, rowQs (.slice va 0 vc) []]) (fun iv _ => 0)
          case atStart => exact ⟨rfl, HO.out⟩
          case round =>
            clear HO
            obtain ⟨rfl, hO⟩ := hrel
            have HO := Lib.hid hO
            clear hO
            go_wp2
            go_roundw
            case rel => exact ⟨t + 1, _, [], _, by go_num, by omega, HPN.out, HO.out⟩
            case measure => simp [intOf]; omega
    · have hd : decide ((t : Int) ≤ mx) = false := decide_eq_false hle
      have HLN := Lib.hid (dn_len HPH.out (by omega))
      obtain ⟨k, hk1, hk2, rfl⟩ := HLN.out
      clear HLN
      go_wp2_with fail
      refine (o_still HO.out (HP2.out _)).mono ?_
      rintro e x61 ⟨rfl, hO, -⟩
      replace HO := Lib.hid (show Own w glD x61 [resF f (dnF sd k), resZ a z, glR g, rowQs (.slice qa q.length qc) q] from hO)
      clear hO
      have hkb : decide ((k : Int) ≥ 1) = true := decide_eq_true (by omega)
      have hkc : decide ((1 : Int) ≤ (k : Int)) = true := decide_eq_true (by omega)
      go_wp2_with fail
      refine (flen_f (n := k) HO.out 0 rfl dnM_len).mono ?_
      rintro e x62 ⟨rfl, hO, -⟩
      replace HO := Lib.hid (show Own w glD x62 [resF f (dnF sd k), resZ a z, glR g, rowQs (.slice qa q.length qc) q] from hO)
      clear hO
      have HBL := Lib.hid (glo_below (HO.out.toEnd 4 [2] rfl rfl) HK.out.1 HK.out.2)
      go_wp2
      go_ret
      exact ⟨rfl, HBL.out⟩
theorem passesDNS_card (seed n : Int) (w : World) (hs : i64B seed) (hn : i64B n) (h2 : w.cell? ⟨ertG, 0, none⟩ = some ertV) : Calls Tryz.prog 3 #[.int .i64 seed, .int .i64 n] w fun e w' => e = .returned (.bool true) ∧ Below w.heap.size w w' := by
  obtain ⟨g, _, hO, k1, k2⟩ := glo_start w ⟨0, 0, none⟩ false (fun h => by cases h) h2
  exact passesDNS_w seed n w hs hn g hO k1 k2
end Go.Proofs.YtbolfkojebbejaaGreatDoor
