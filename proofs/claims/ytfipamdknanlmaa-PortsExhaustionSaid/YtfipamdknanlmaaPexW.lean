/- PortsExhaustion, walked. -/
import Derived.Test.YtfipamdknanlmaaPexP
namespace Go.Proofs.Ytfipamdknanlmaa
open Go.RowKit Go.Sort
set_option linter.unusedVariables false

theorem infoN : (Try.prog.info? 3).map (fun i => (i.zero, i.size, i.bytes)) = some (some (.int .i64 0), 1, 8) := by kernel_rfl
theorem run_mkB (w : World) : (Instr.makeSlice 38 (.int .i64 64) (.int .i64 64)).run Try.prog w = .ok (.slice (some ⟨w.heap.size, 0, none⟩) 64 64) (w.alloc (.cells (Array.replicate 64 (.bool false)) 4)) := by kernel_rfl
theorem run_bsI1 (x : Int) (w : World) : (Instr.buildSlice 37 1 #[(0, .int .i64 x)]).run Try.prog w = .ok (.slice (some ⟨w.heap.size, 0, none⟩) 1 1) (w.alloc (.cells #[.int .i64 x] 3)) := by kernel_rfl
theorem run_bdC (u : Bool) (w : World) : (Instr.build 29 #[(1, .bool u)]).run Try.prog w = .ok (clV ⟨0, u, 0, 0, 0, 0⟩) w := by kernel_rfl
def exV (sd : Int) (k : Nat) : List Value := (List.range k).map fun i => .int .i64 (exP sd i)
theorem exV_succ (sd : Int) (k : Nat) : exV sd (k + 1) = exV sd k ++ [.int .i64 (exP sd k)] := by simp [exV, List.range_succ]
theorem exV_get (sd : Int) (k i : Nat) (h : i < k) : (exV sd k)[i]? = some (.int .i64 (exP sd i)) := by simp [exV, h]
structure Met (sd : Int) (k : Nat) (arr : Array Value) : Prop where
  size : arr.size = 64
  get : ∀ j, j < 64 → arr[j]? = some (.bool (metB sd k j))
theorem met_zero (sd : Int) : Met sd 0 (Array.replicate 64 (.bool false)) := ⟨by simp, fun j hj => by simp [hj, metB]⟩
theorem Met.next {sd : Int} {k : Nat} {arr : Array Value} (h : Met sd k arr) : Met sd (k + 1) (arr.setIfInBounds (exP sd k - 49152).toNat (.bool true)) := by
  have hb := exP_bd sd k
  refine ⟨by simp [h.size], fun j hj => ?_⟩
  rw [Array.getElem?_setIfInBounds, met_succ]
  by_cases e : (exP sd k - 49152).toNat = j
  · rw [if_pos e, if_pos (by rw [h.size]; omega)]
    have : (exP sd k == 49152 + (j : Int)) = true := by rw [beq_iff_eq]; omega
    rw [this]; simp
  · rw [if_neg e, h.get j hj]
    have : (exP sd k == 49152 + (j : Int)) = false := by rw [beq_eq_false_iff_ne]; omega
    rw [this]; simp

set_option maxRecDepth 100000 in
set_option maxHeartbeats 4000000 in
theorem exhaustion_walk (sd wh : Int) (ud : Bool) (w : World) (hsd : i64B sd) (hwh : 0 ≤ wh ∧ wh ≤ 255) :
    Calls Try.prog 4 #[.int .i64 sd, .int .u8 wh, .bool ud] w fun e w' => e = .returned (.bool true) ∧ Below w.heap.size w w' := by
  have B := Lib.hid (Below.refl w.heap.size w)
  have rC := run_bdC
  have hv : vpr (protoF ⟨0, ud, 0, 0, 0, 0⟩) = true := by cases ud <;> rfl
  have HPR := Lib.hid (proto_any ⟨0, ud, 0, 0, 0, 0⟩)
  generalize protoF ⟨0, ud, 0, 0, 0, 0⟩ = pr at *
  have HV := Lib.hid hv
  clear hv
  obtain ⟨hw0, hw1⟩ := hwh
  go_enter Try.func4, Try.ntmps4
  go_wp2_with fail
  refine (examples_any _).mono ?_
  rintro e x1 ⟨rfl, hb⟩
  replace B := Lib.hid (below_mid B.out hb)
  clear hb
  go_wp2_with fail
  refine (new_any sd _).mono ?_
  rintro e x2 ⟨p, rfl, hP, hge, hb⟩
  obtain ⟨F0, hP, hFn⟩ : ∃ F : Nat → Prop, PAt x2 p ⟨sd, 0, [], []⟩ F ∧ ∀ b, F b → b = p := ⟨_, hP, fun _ h => h⟩
  have HP := Lib.hid (show Ob w x2 p (exSt sd pr 0) F0 from ⟨hP, fun b h => by have := hFn b h; have := B.out.size; omega⟩)
  replace B := Lib.hid (below_mid B.out hb)
  clear hP hge hb hFn
  go_wp2_with fail
  refine (HPR.out _).mono ?_
  rintro e x3 ⟨rfl, hb⟩
  replace B := Lib.hid (below_mid B.out hb)
  replace HP := Lib.hid (HP.out.stay hb)
  clear hb
  have rM := run_mkB
  obtain ⟨x4, hx4⟩ : ∃ y, x3.alloc (.cells (Array.replicate 64 (.bool false)) 4) = y := ⟨_, rfl⟩
  have hb : Below x3.heap.size x3 x4 := by rw [← hx4]; exact below_one _ _
  have LM := Lib.hid (show x4.heap[x3.heap.size]? = some (.cells (Array.replicate 64 (.bool false)) 4) by rw [← hx4]; exact new_blk _ _)
  have NM := Lib.hid (show ¬ F0 x3.heap.size from fun h => by have := HP.out.at.bound _ h; omega)
  have HMB := Lib.hid (show w.heap.size ≤ x3.heap.size from B.out.size)
  replace B := Lib.hid (below_mid B.out hb)
  replace HP := Lib.hid (HP.out.stay hb)
  clear hb
  go_wp2
  clear rM rC HPR
  obtain ⟨mb, hmb⟩ : ∃ mb, x3.heap.size = mb := ⟨_, rfl⟩
  rw [hmb] at LM NM HMB ⊢
  clear hmb hx4
  go_loopw [10, 12, 13, 14] (fun v i _ _ wr => ∃ (k : Nat) (F : Nat → Prop) (arr : Array Value), k ≤ 64 ∧ i = .int .i64 k ∧ wr.ownsRow w.heap.size 3 1 v k (exV sd k) ∧ (∀ g, v.ownBlock = some g → ¬ F g) ∧ wr.heap[mb]? = some (.cells arr 4) ∧ Met sd k arr ∧ ¬ F mb ∧ Ob w wr p (exSt sd pr k) F ∧ Below w.heap.size w wr) (fun _ i _ _ _ => 64 - (intOf i).toNat)
  case atStart => exact ⟨0, F0, _, Nat.zero_le _, rfl, World.ownsRow_nil _ _ _ _, (fun g h => by cases h), LM.out, met_zero sd, NM.out, HP.out, B.out⟩
  case round =>
    obtain ⟨k, F, arr, hk, rfl, hrow, hnF, hmt, hmet, hnm, hob, hbel⟩ := hrel
    have HROW := Lib.hid hrow
    have HNF := Lib.hid hnF
    have HMT := Lib.hid hmt
    have HMET := Lib.hid hmet
    have HNM := Lib.hid hnm
    have HO := Lib.hid hob
    have HB := Lib.hid hbel
    clear hrow hnF hmt hmet hnm hob hbel LM NM HP B
    by_cases hlt : k < 64
    · have HBP := Lib.hid (exP_bd sd k)
      have HNEW := Lib.hid (met_new (sd := sd) hlt)
      have HAN := Lib.hid (any_l (ex_step (sd := sd) hlt HV.out) wr HO.out.at (by rw [show (exSt sd pr k).B.length = k from exB_len sd pr k]; omega) (by simp [exSt]) (by simp [exSt]) (by simp [exSt]; omega))
      obtain ⟨a0, c0, hv0⟩ := row_slice1 HROW.out
      subst hv0
      go_wp2_with fail
      refine HAN.out.mono ?_
      rintro e x5 ⟨rfl, F2, hP, hF, hU⟩
      have HO2 := Lib.hid (show Ob w x5 p (exSt sd pr (k + 1)) F2 from ⟨hP, fun b h => (hF b h).elim (HO.out.low b) (fun h => Nat.le_trans HB.out.size h)⟩)
      have HMT2 := Lib.hid (blk_upd hU HNM.out HMT.out)
      have HNM2 := Lib.hid (show ¬ F2 mb from fun h => (hF _ h).elim HNM.out (fun h => by have := blk_lt HMT.out; omega))
      have HROW2 := Lib.hid (hU.row HROW.out HNF.out)
      have HNF2 := Lib.hid (show ∀ g, (Value.slice a0 k c0).ownBlock = some g → ¬ F2 g from fun g hg h => (hF _ h).elim (HNF.out g hg) (fun h => by have := row_lt HROW.out hg; omega))
      have HB2 := Lib.hid (HB.out.trans (hU.below HB.out.size HO.out.low))
      have HV1 := Lib.hid (exV_succ sd k)
      have HM1 := Lib.hid HMET.out.next
      clear hP hF hU HAN HO HMT HNM HROW HNF HB
      obtain ⟨bp0, bp1⟩ := HBP.out
      have hsz := HMET.out.size
      have q0 : x5.cell? ⟨mb, (exP sd k - 49152).toNat, none⟩ = some (.bool false) := by
        rw [blk_cell HMT2.out, HMET.out.get _ (by omega), HNEW.out]
      have z0 : x5.frozen? ⟨mb, (exP sd k - 49152).toNat, none⟩ = false := blk_frz HMT2.out _
      clear HBP HNEW
      generalize exP sd k = n at *
      obtain ⟨x6, hx6⟩ : ∃ y, x5.setCell ⟨mb, (n - 49152).toNat, none⟩ (.bool true) = y := ⟨_, rfl⟩
      have HU6 := Lib.hid (show Upd (fun b => b = mb) x5 x6 by rw [← hx6]; exact Upd.setCell (p := ⟨mb, (n - 49152).toNat, none⟩) (Upd.refl (fun b => b = mb) x5) (fun _ => rfl) _)
      have HMT6 := Lib.hid (show x6.heap[mb]? = some (.cells (arr.setIfInBounds (n - 49152).toNat (.bool true)) 4) by rw [← hx6]; exact blk_set HMT2.out _ _)
      have HO6 := Lib.hid (HO2.out.other HU6.out (fun b e h => HNM2.out (e ▸ h)))
      have HROW6 := Lib.hid (HU6.out.row HROW2.out (fun g hg e => row_ne HROW2.out hg (by decide) HMT2.out e))
      have HB6 := Lib.hid (show Below w.heap.size w x6 by rw [← hx6]; exact HB2.out.setCell HMB.out _)
      have rb := run_bsI1
      obtain ⟨x7, hx7⟩ : ∃ y, x6.alloc (.cells #[.int .i64 n] 3) = y := ⟨_, rfl⟩
      have hb7 : Below x6.heap.size x6 x7 := by rw [← hx7]; exact below_one _ _
      have HN7 := Lib.hid (show x7.heap[x6.heap.size]? = some (.cells #[.int .i64 n] 3) by rw [← hx7]; exact new_blk _ _)
      have HMT7 := Lib.hid (blk_stay hb7 HMT6.out)
      have HO7 := Lib.hid (HO6.out.stay hb7)
      have HROW7 := Lib.hid (ownsRow_below hb7 HROW6.out)
      have HB7 := Lib.hid (below_mid HB6.out hb7)
      have HS7 := Lib.hid hb7.size
      clear hb7 HO6 HROW6 HB6 HMT6 HU6
      go_wp2_with ((at_builtin; refine (show _ = True → _ from fun h => of_eq_true h) ?_))
      refine eq_true ?_
      obtain ⟨i0, hi, hz0, hz1, hz2⟩ := info_parts infoN
      refine wpList_app rfl (.tmp 63) (.tmp 65) 37 rfl Try.underlying37 hi hz0 hz1 hz2 rfl (by decide) rfl HROW7.out [.int .i64 n] rfl rfl (news_blk HN7.out) (by simp; rfl) (by unfold maxLen; omega) (by omega) HB7.out.size ?_
      intro v' x8 hown hu8 hnear
      have HO8 := Lib.hid (HO7.out.other hu8 (fun b e h => HNF2.out b e h))
      have HMT8 := Lib.hid (blk_upd hu8 (fun e => row_ne HROW7.out e (by decide) HMT7.out rfl) HMT7.out)
      have HB8 := Lib.hid (HB7.out.trans (hu8.below HB7.out.size (fun b e => row_base HROW7.out e)))
      have HR8 := Lib.hid (show x8.ownsRow w.heap.size 3 1 v' (k + 1) (exV sd (k + 1)) by rw [HV1.out]; exact hown)
      have HNF8 := Lib.hid (show ∀ g, v'.ownBlock = some g → ¬ F2 g from fun g hg h => by
        rcases hnear with h1 | h1 | ⟨g2, h1, h2⟩
        · rw [h1] at hg; cases hg
        · exact HNF2.out g (h1 ▸ hg) h
        · rw [h1] at hg; cases hg; have := HO7.out.at.bound _ h; omega)
      clear hown hu8 hnear hi hz0 hz1 hz2 q0 z0 rb HO7 HMT7 HROW7 HB7 HN7
      go_wp2
      go_roundw
      case rel => exact ⟨k + 1, F2, _, by omega, by go_num, HR8.out, HNF8.out, HMT8.out, HM1.out, HNM2.out, HO8.out, HB8.out⟩
      case measure => simp [intOf]; omega
    · obtain rfl : k = 64 := by omega
      obtain ⟨a0, c0, hv0⟩ := row_slice1 HROW.out
      subst hv0
      clear HMT HMET HNM
      obtain ⟨q, hq⟩ : ∃ q : Nat, wh % 64 = (q : Int) := ⟨(wh % 64).toNat, by omega⟩
      have hq64 : q < 64 := by omega
      go_wp2_with fail
      refine (any_l (ex_full (sd := sd) HV.out) wr HO.out.at (by rw [show (exSt sd pr 64).B.length = 64 from exB_len sd pr 64]; omega) (by simp [exSt]) (by simp [exSt]) (by simp [exSt])).mono ?_
      rintro e x5 ⟨rfl, F2, hP, hF, hU⟩
      have HOn := Lib.hid (show Ob w x5 p (exSt sd pr 64) F2 from ⟨hP, fun b h => (hF b h).elim (HO.out.low b) (fun h => Nat.le_trans HB.out.size h)⟩)
      have HNn := Lib.hid (show ∀ g, (Value.slice a0 64 c0).ownBlock = some g → ¬ F2 g from fun g hg h => (hF _ h).elim (HNF.out g hg) (fun h => by have := row_lt HROW.out hg; omega))
      replace HROW := Lib.hid (hU.row HROW.out HNF.out)
      replace HB := Lib.hid (HB.out.trans (hU.below HB.out.size HO.out.low))
      replace HO := HOn
      replace HNF := HNn
      clear hP hF hU HOn HNn
      go_wp2_with fail
      refine (rel_l (st := exSt sd pr 64) (s := q) rfl _ HO.out.at (by rw [show (exSt sd pr 64).B.length = 64 from exB_len sd pr 64]; omega) (by simp [exSt])).mono ?_
      rintro e x6 ⟨rfl, F3, hP, hF, hU⟩
      have HOn := Lib.hid (show Ob w x6 p (relS (exSt sd pr 64) q) F3 from ⟨hP, fun b h => (hF b h).elim (HO.out.low b) (fun h => Nat.le_trans HB.out.size h)⟩)
      have HNn := Lib.hid (show ∀ g, (Value.slice a0 64 c0).ownBlock = some g → ¬ F3 g from fun g hg h => (hF _ h).elim (HNF.out g hg) (fun h => by have := row_lt HROW.out hg; omega))
      replace HROW := Lib.hid (hU.row HROW.out HNF.out)
      replace HB := Lib.hid (HB.out.trans (hU.below HB.out.size HO.out.low))
      replace HO := HOn
      replace HNF := HNn
      clear hP hF hU HOn HNn
      go_wp2_with fail
      refine (any_l (ex_rel (sd := sd) hq64 HV.out) _ HO.out.at (by rw [show (relS (exSt sd pr 64) q).B.length = 63 from ex_rlen hq64]; omega) (by simp [relS, exSt, rel]) (by simp [relS, exSt]) (by simp [relS, exSt])).mono ?_
      rintro e x7 ⟨rfl, F4, hP, hF, hU⟩
      have HOn := Lib.hid (show Ob w x7 p (exE sd pr q) F4 from ⟨hP, fun b h => (hF b h).elim (HO.out.low b) (fun h => Nat.le_trans HB.out.size h)⟩)
      have HNn := Lib.hid (show ∀ g, (Value.slice a0 64 c0).ownBlock = some g → ¬ F4 g from fun g hg h => (hF _ h).elim (HNF.out g hg) (fun h => by have := row_lt HROW.out hg; omega))
      replace HROW := Lib.hid (hU.row HROW.out HNF.out)
      replace HB := Lib.hid (HB.out.trans (hU.below HB.out.size HO.out.low))
      replace HO := HOn
      replace HNF := HNn
      clear hP hF hU HOn HNn
      have HLB := Lib.hid (show (exE sd pr q).B.length ≤ 1000000 by simp [exE, ex_rlen hq64])
      go_wp2_with fail
      refine (look_l (ex_look (sd := sd) (pr := pr) hq64) _ HO.out.at (by simp [exE])).mono ?_
      rintro e x8 ⟨rfl, hb⟩
      replace HROW := Lib.hid (ownsRow_below hb HROW.out)
      replace HO := Lib.hid (HO.out.stay hb)
      replace HB := Lib.hid (below_mid HB.out hb)
      clear hb
      have hqc : ∃ g c, Value.slice a0 64 c0 = .slice (some ⟨g, 0, none⟩) 64 c ∧ 64 ≤ c ∧ x8.cell? ⟨g, q, none⟩ = some (.int .i64 (exP sd q)) := by
        rcases HROW.out.2 with ⟨_, h0⟩ | ⟨g, c, cur, e, _, hh, hc, _, hs, htk⟩
        · cases h0
        · refine ⟨g, c, e, hc, ?_⟩
          have h1 : (exV sd 64)[q]? = some (.int .i64 (exP sd q)) := exV_get sd 64 q hq64
          rw [← htk, List.getElem?_take, if_pos (by omega)] at h1
          simpa [World.cell?, hh] using h1
      obtain ⟨g, c, e, hc64, hcq⟩ := hqc
      cases e
      have HLN := Lib.hid (len_l (ex_len (sd := sd) (pr := pr) hq64) x8 HO.out.at HLB.out (by simp [exE]))
      generalize exP sd q = nq at *
      go_wp2_with fail
      refine HLN.out.mono ?_
      rintro e x9 ⟨rfl, hb⟩
      replace HB := Lib.hid (below_mid HB.out hb)
      clear hb
      go_wp2
      go_ret
      exact ⟨rfl, HB.out⟩

end Go.Proofs.Ytfipamdknanlmaa
