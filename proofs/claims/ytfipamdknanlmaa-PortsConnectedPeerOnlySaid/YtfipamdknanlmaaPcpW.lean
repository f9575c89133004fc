/- PortsConnectedPeerOnly, walked. Printed by wip/tools/gen23y.py. -/
import Derived.Test.YtfipamdknanlmaaPcp
import Derived.Test.YtfipamdknanlmaaPown
namespace Go.Proofs.Ytfipamdknanlmaa
open Go.RowKit Go.Sort
set_option linter.unusedVariables false

theorem cellsU16 : Try.prog.cellsOf 44 = 1 := by kernel_rfl
theorem cellsPu : Try.prog.cellsOf 48 = 2 := by kernel_rfl
def u16B (n : Int) : Prop := 0 ≤ n ∧ n ≤ 65535
theorem open_pu {H : Type} {enc : TypeId × Value → H} {W : World} {fuel : Nat} {cs : List Value} {x : DataW H × List MemPlace} (hl : cs.length = 2)
    (h : DataW.trod enc Try.prog W 0 (fun _ => true) true fuel 48 cs = some x) : ∃ c : Int × Int, (u16B c.1 ∧ u16B c.2) ∧ cs = [.int .u16 c.1, .int .u16 c.2] := by
  match cs, hl with
  | [v0, v1], _ =>
    obtain ⟨xs, n, _, _, _, hl, hf⟩ := DataW.trod_array Try.underlying48 h
    have hl2 : xs.length = 2 := hl
    match xs, hl2 with
    | [y0, y1], _ =>
      have t0 := hf 0 (by decide)
      have t1 := hf 1 (by decide)
      simp only [cellsU16] at t0 t1
      have t0' : DataW.trod enc Try.prog W 0 (fun _ => true) true n 44 [v0] = some y0 := t0
      have t1' : DataW.trod enc Try.prog W 0 (fun _ => true) true n 44 [v1] = some y1 := t1
      obtain ⟨p0, e0, _, w0⟩ := DataW.trod_int Try.underlying44 t0'
      obtain ⟨p1, e1, _, w1⟩ := DataW.trod_int Try.underlying44 t1'
      simp at e0 e1
      exact ⟨(p0, p1), ⟨wf_u16 w0, wf_u16 w1⟩, by simp [e0, e1]⟩
/-- A slice of pairs. -/
def RdP (w : World) (v : Value) (len : Nat) (g : Nat → Int × Int) : Prop :=
  ∃ a cap, v = .slice a len cap ∧ len ≤ cap ∧ len ≤ 9223372036854775807 ∧ (∀ i, i < len → u16B (g i).1 ∧ u16B (g i).2) ∧ (len ≠ 0 → ∃ b o, a = some ⟨b, o, none⟩ ∧ ∀ i, i < len → ∀ j, j < 2 → w.cell? ⟨b, o + i * 2 + j, none⟩ = [Value.int .u16 (g i).1, .int .u16 (g i).2][j]?)
theorem open_pairs {H : Type} {enc : TypeId × Value → H} {W : World} {a : Option Addr} {len cap fuel : Nat} {x : DataW H × List MemPlace}
    (h : DataW.trod enc Try.prog W 0 (fun _ => true) true fuel 45 [.slice a len cap] = some x) : ∃ g, RdP W (.slice a len cap) len g := by
  obtain ⟨f, ⟨a', cap', e, h1, h2, h3⟩, hq⟩ := open_rows Try.underlying45 cellsPu (by decide) (fun cs => ∃ c : Int × Int, (u16B c.1 ∧ u16B c.2) ∧ cs = [.int .u16 c.1, .int .u16 c.2]) (fun hl ht => open_pu hl ht) h
  cases e
  obtain ⟨g, hg⟩ := @Go.Deep.choose_lt (Int × Int) ⟨(0, 0)⟩ len _ (fun i hi => (hq i hi).2)
  refine ⟨g, a, cap, rfl, h1, h2, fun i hi => (hg i hi).1, fun hn => ?_⟩
  obtain ⟨b, o, rfl, hc⟩ := h3 hn
  exact ⟨b, o, rfl, fun i hi j hj => by rw [hc i hi j hj, (hg i hi).2]⟩
def pblk (B : Nat) (o : Obj) : Pred := fun v w => ∃ b, v = .pointer (some ⟨b, 0, none⟩) ∧ B ≤ b ∧ w.heap[b]? = some o
theorem pblk_lasts (B : Nat) (o : Obj) : Lasts (pblk B o) := by
  rintro v w w' ⟨b, rfl, hB, hb⟩ hbl
  exact ⟨b, rfl, hB, (hbl.block b (Array.getElem?_eq_some_iff.1 hb).1).trans hb⟩
abbrev rowP (v : Value) (l : List (Int × Int)) : Res := rowR v 49 2 l.length (l.flatMap cPr)
theorem at_o {w0 w : World} {D : Nat → Prop} {L : List Res} {v : Value} {l : List (Int × Int)} (h : Own w0 D w L) (i : Nat) (hi : L[i]? = some (rowP v l)) {a b k : Int} (hk : atF l (a, b) = k) (hn : l.length ≤ 1000) :
    Calls Try.prog 21 #[v, .agg #[.int .i64 a, .int .i64 b]] w (OPost w0 D L (.int .i64 k) w) := hk ▸ o_still h (at_any rfl (a, b) (h.row i hi) hn)
theorem infoP2 : (Try.prog.info? 49).map (fun i => (i.zero, i.size, i.bytes)) = some (some (.agg #[.int .i64 0, .int .i64 0]), 2, 16) := by kernel_rfl
theorem run_bsP2 (x0 x1 : Int) (w : World) : (Instr.buildSlice 47 1 #[(0, .agg #[.int .i64 x0, .int .i64 x1])]).run Try.prog w = .ok (.slice (some ⟨w.heap.size, 0, none⟩) 1 1) (w.alloc (.cells #[.int .i64 x0, .int .i64 x1] 49)) := by kernel_rfl
theorem run_bdP (x0 x1 : Int) (w : World) : (Instr.build 49 #[(0, .int .i64 x0), (1, .int .i64 x1)]).run Try.prog w = .ok (.agg #[.int .i64 x0, .int .i64 x1]) w := by kernel_rfl
theorem one2 (a b : Int) : ∀ u ∈ ([.int .i64 a, .int .i64 b] : List Value), u.oneCell' = true := by
  intro u hu; simp only [List.mem_cons, List.not_mem_nil, or_false] at hu; rcases hu with h | h <;> (subst h; rfl)

set_option maxRecDepth 100000 in
set_option maxHeartbeats 8000000 in
theorem peer_walk (pt : Int) (len : Nat) (g : Nat → Int × Int) (v : Value) (ta tb : Int) (w : World) (hpt : u16B pt) (hv : RdP w v len g) (hta : u16B ta) (htb : u16B tb) :
    Calls Try.prog 5 #[.int .u16 pt, v, .int .u16 ta, .int .u16 tb] w fun e w' => e = .returned (.bool true) ∧ Below w.heap.size w w' := by
  obtain ⟨a, cap, rfl, hcap, hlen, hok, hcl⟩ := hv
  have HOK := Lib.hid hok
  have HCL := Lib.hid hcl
  clear hok hcl
  obtain ⟨p0, p1⟩ := hpt
  obtain ⟨t0, t1⟩ := hta
  obtain ⟨u0, u1⟩ := htb
  obtain ⟨n, hn⟩ : ∃ n, 1 + pt % 65535 = n := ⟨_, rfl⟩
  obtain ⟨tc, htc⟩ : ∃ n, 1 + tb % 65535 = n := ⟨_, rfl⟩
  have hn0 : 1 ≤ n ∧ n ≤ 65535 := by omega
  have htc0 : 1 ≤ tc ∧ tc ≤ 65535 := by omega
  have HV := Lib.hid (show vpo n = true by simp [vpo, hn0.1, hn0.2])
  have HTC := Lib.hid htc0
  have rbd := run_bdP
  have HBE := Lib.hid (show bindE ⟨0, 0, [], []⟩ 6 n 500 = 0 by unfold bindE; rw [HV.out]; rfl)
  have HBS := Lib.hid (show bindS ⟨0, 0, [], []⟩ 6 n 500 = ⟨0, 0, [(⟨6, n⟩, 500)], []⟩ by unfold bindS; rw [HBE.out, if_pos rfl]; rfl)
  clear hn0 htc0
  have HO := Lib.hid (show Own w none0 w [] from Own.nil w none0)
  go_enter Try.func5, Try.ntmps5
  go_wp2_with fail
  refine (examples_o HO.out).mono ?_
  rintro e x1 ⟨rfl, hO, -⟩
  replace HO := Lib.hid (show Own w none0 x1 [] from hO)
  clear hO
  go_wp2_with fail
  refine (new_o 0 HO.out).mono ?_
  rintro e x2 ⟨p, rfl, hO, -⟩
  replace HO := Lib.hid (show Own w none0 x2 [resP p ⟨0, 0, [], []⟩] from hO)
  clear hO
  go_wp2_with fail
  refine (bind_o HO.out 0 rfl HBE.out HBS.out (by decide)).mono ?_
  rintro e x3 ⟨rfl, hO, -⟩
  replace HO := Lib.hid (show Own w none0 x3 [resP p ⟨0, 0, [(⟨6, n⟩, 500)], []⟩] from hO)
  clear hO
  go_wp2
  replace HO := Lib.hid (show Own w none0 x3 [resP p ⟨0, 0, [(⟨6, n⟩, 500)], []⟩, rowP (.slice none 0 0) []] from HO.out.rowNew 49 2)
  go_loopw [12, 13, 14, 15, 16] (fun v i _ _ _ wr => ∃ (kk : Nat) (hv : List (Int × Int)) (J : List (Ck × Int)), kk ≤ len ∧ kk ≤ 16 ∧ i = .int .i64 kk ∧ hv.length = kk ∧ Own w none0 wr [resP p ⟨0, 0, [(⟨6, n⟩, 500)], J⟩, rowP v hv] ∧ CP n hv J ∧ J.length ≤ kk) (fun _ i _ _ _ _ => 16 - (intOf i).toNat)
  case atStart => exact ⟨0, [], [], Nat.zero_le _, by omega, rfl, rfl, HO.out, CP.nil n, Nat.le_refl _⟩
  case round =>
    obtain ⟨kk, hv, J, hk, hk16, rfl, hkl, hO, hC, hJ⟩ := hrel
    replace HO := Lib.hid hO
    have HKL := Lib.hid hkl
    have HC := Lib.hid hC
    have HJ := Lib.hid hJ
    have HL2 := Lib.hid (show J.length ≤ 1000000 by omega)
    clear hO hkl hC hJ
    by_cases hlt : kk < len ∧ kk < 16
    · obtain ⟨hlt1, hlt2⟩ := hlt
      obtain ⟨b, o, rfl, hcc⟩ := HCL.out (by omega)
      have hcc := hcc kk hlt1
      have hob := HOK.out kk hlt1
      generalize g kk = c at *
      obtain ⟨xa, xb⟩ := c
      obtain ⟨⟨a0, a1⟩, ⟨b0, b1⟩⟩ := hob
      simp only at a0 a1 b0 b1
      have y0 := cell_regrown (show wr.cell? ⟨b, o + kk * 2, none⟩ = some (.int .u16 xa) from keep HO.out.below (hcc 0 (by decide)))
      have y1 := cell_regrown (show wr.cell? ⟨b, o + kk * 2 + 1, none⟩ = some (.int .u16 xb) from keep HO.out.below (hcc 1 (by decide)))
      obtain ⟨xc, hxc⟩ : ∃ n, 1 + xb % 65535 = n := ⟨_, rfl⟩
      have hxc0 : 1 ≤ xc := by omega
      have hxc1 : xc ≤ 65535 := by omega
      clear hcc
      go_wp2
      refine wp_region_R 16 (by kernel_rfl) (by kernel_rfl) ?_
      simp only [List.take, List.drop]
      iterate 15 (first | (refine wpR_want (by kernel_rfl) rfl rfl ?_; intro K hK; go_big_quiet_op; go_big_quiet_on) | (refine wpR_is (by kernel_rfl) rfl _ (fun w _ => rfl) ?_; simp only [Act.put, List.setIfInBounds_toArray, List.set_cons_succ, List.set_cons_zero]))
      refine wpR_ex (pblk wr.heap.size (.cells #[.int .i64 0, .int .i64 0] 49)) (pblk_lasts _ _) (by kernel_rfl) (fun a' w' hw' he => ?_) (fun d hd => ?_)
      · have hs := hw'.size
        simp [go_sem]
        exact ⟨_, rfl, (Below.refl _ _).alloc (Nat.le_refl _) _, ⟨w'.heap.size, rfl, hs, new_blk _ _⟩⟩
      cases hd
      simp only [List.nil_append]
      refine wpR_nil (by kernel_rfl) (by simp) ?_
      rintro w5 hb5
      simp only [exAll]
      rintro u14' ⟨bx, rfl, hge, hbx⟩
      simp only [Act.put, List.setIfInBounds_toArray, List.set_cons_succ, List.set_cons_zero, List.drop]
      have hO := HO.out.push (R := blkR bx (.cells #[.int .i64 0, .int .i64 0] 49)) (F := fun z => z = bx) ⟨fun _ => Iff.rfl, hbx⟩ (fun z hz => hz ▸ hge) hb5
      clear y0 y1 hb5 hge hbx
      replace HO := Lib.hid (show Own w none0 w5 [resP p ⟨0, 0, [(⟨6, n⟩, 500)], J⟩, rowP u12 hv, blkR bx (.cells #[.int .i64 0, .int .i64 0] 49)] from hO)
      clear hO
      have z2_0 : w5.cell? ⟨bx, 0, none⟩ = some (.int .i64 0) := HO.out.cell 2 rfl 0 rfl
      have z2_1 : w5.cell? ⟨bx, 1, none⟩ = some (.int .i64 0) := HO.out.cell 2 rfl 1 rfl
      have y2_0 : w5.frozen? ⟨bx, 0, none⟩ = false := HO.out.frz 2 rfl 0
      have y2_1 : w5.frozen? ⟨bx, 1, none⟩ = false := HO.out.frz 2 rfl 1
      obtain ⟨x4, hx4⟩ : ∃ y, w5.setCell ⟨bx, 0, none⟩ (.int .i64 xa) = y := ⟨_, rfl⟩
      have hO := HO.out.setCell 2 rfl 0 (.int .i64 xa)
      rw [hx4] at hO
      replace HO := Lib.hid (show Own w none0 x4 [resP p ⟨0, 0, [(⟨6, n⟩, 500)], J⟩, rowP u12 hv, blkR bx (.cells #[.int .i64 xa, .int .i64 0] 49)] from hO)
      clear hO
      have k1 : x4.cell? ⟨bx, 1, none⟩ = some (.int .i64 0) := HO.out.cell 2 rfl 1 rfl
      have k2 : x4.frozen? ⟨bx, 1, none⟩ = false := HO.out.frz 2 rfl 1
      obtain ⟨x5, hx5⟩ : ∃ y, x4.setCell ⟨bx, 1, none⟩ (.int .i64 xc) = y := ⟨_, rfl⟩
      have hO := HO.out.setCell 2 rfl 1 (.int .i64 xc)
      rw [hx5] at hO
      replace HO := Lib.hid (show Own w none0 x5 [resP p ⟨0, 0, [(⟨6, n⟩, 500)], J⟩, rowP u12 hv, blkR bx (.cells #[.int .i64 xa, .int .i64 xc] 49)] from hO)
      clear hO
      have z2_0t : x5.cell? ⟨bx, 0, none⟩ = some (.int .i64 xa) := HO.out.cell 2 rfl 0 rfl
      have z2_1t : x5.cell? ⟨bx, 1, none⟩ = some (.int .i64 xc) := HO.out.cell 2 rfl 1 rfl
      obtain ⟨k0, hk0⟩ : ∃ k, atF hv (xa, xc) = k := ⟨_, rfl⟩
      have HK0 := Lib.hid hk0
      clear hk0
      go_wp2_with fail
      refine (at_o HO.out 1 rfl HK0.out (by have := HKL.out; omega)).mono ?_
      rintro e x6 ⟨rfl, hO, -⟩
      replace HO := Lib.hid (show Own w none0 x6 [resP p ⟨0, 0, [(⟨6, n⟩, 500)], J⟩, rowP u12 hv, blkR bx (.cells #[.int .i64 xa, .int .i64 xc] 49)] from hO)
      clear hO
      clear z2_0 z2_1 y2_0 y2_1 hx4 k1 k2 hx5 z2_0t z2_1t
      have z2_0 : x6.cell? ⟨bx, 0, none⟩ = some (.int .i64 xa) := HO.out.cell 2 rfl 0 rfl
      have z2_1 : x6.cell? ⟨bx, 1, none⟩ = some (.int .i64 xc) := HO.out.cell 2 rfl 1 rfl
      have hst := cp_step (B := [(⟨6, n⟩, 500)]) HC.out HV.out (a := xa) (b := xc) ⟨a0, a1⟩ ⟨hxc0, hxc1⟩
      rw [HK0.out, HKL.out] at hst
      rcases hst with ⟨hk0, hE, hS, hC2⟩ | ⟨hk0, hE, hS, hC2⟩
      · have HE := Lib.hid hE
        have HS := Lib.hid hS
        have HC2 := Lib.hid hC2
        clear hE hS hC2
        have hd0 : decide (0 ≤ k0) = true := by simpa using hk0
        go_wp2_with fail
        refine (conn_o HO.out 0 rfl HE.out HS.out HL2.out).mono ?_
        rintro e x7 ⟨rfl, hO, -⟩
        replace HO := Lib.hid (show Own w none0 x7 [resP p ⟨0, 0, [(⟨6, n⟩, 500)], J⟩, rowP u12 hv, blkR bx (.cells #[.int .i64 xa, .int .i64 xc] 49)] from hO)
        clear hO
        clear z2_0 z2_1
        have rb := run_bsP2
        obtain ⟨x8, hx8⟩ : ∃ y, x7.alloc (.cells #[.int .i64 (-1), .int .i64 (-1)] 49) = y := ⟨_, rfl⟩
        obtain ⟨bn, hbn⟩ : ∃ y, x7.heap.size = y := ⟨_, rfl⟩
        have hO := HO.out.alloc (.cells #[.int .i64 (-1), .int .i64 (-1)] 49)
        rw [hx8, hbn] at hO
        replace HO := Lib.hid (show Own w none0 x8 [resP p ⟨0, 0, [(⟨6, n⟩, 500)], J⟩, rowP u12 hv, blkR bx (.cells #[.int .i64 xa, .int .i64 xc] 49), blkR bn (.cells #[.int .i64 (-1), .int .i64 (-1)] 49)] from hO)
        clear hO
        go_wp2_with ((at_builtin; refine (show _ = True → _ from fun h => of_eq_true h) ?_))
        refine eq_true ?_
        refine wpList_appO rfl (.tmp 91) (.tmp 93) 47 rfl Try.underlying47 infoP2 rfl (by decide) HO.out 1 rfl rfl 3 1 1 [.int .i64 (-1), .int .i64 (-1)] rfl rfl rfl (one2 _ _) (by have := HKL.out; unfold maxLen; omega) (by have := HKL.out; omega) ?_
        intro v9 x9 hO
        clear rb hx8 hbn
        have e1 : rowR v9 49 2 (hv.length + 1) (hv.flatMap cPr ++ [.int .i64 (-1), .int .i64 (-1)]) = rowP v9 (hv ++ [(-1, -1)]) := by
          show _ = rowR _ _ _ _ _
          rw [List.length_append, List.flatMap_append]; rfl
        simp only [List.set_cons_succ, List.set_cons_zero, e1] at hO
        replace HO := Lib.hid (show Own w none0 x9 [resP p ⟨0, 0, [(⟨6, n⟩, 500)], J⟩, rowP v9 (hv ++ [(-1, -1)])] from hO.take 2)
        clear hO e1
        have HKL2 := Lib.hid (show (hv ++ [((-1, -1) : Int × Int)]).length = kk + 1 by rw [List.length_append, HKL.out]; rfl)
        have HJ2 := Lib.hid (show J.length ≤ kk + 1 by have := HJ.out; omega)
        go_wp2
        go_roundw
        case rel => exact ⟨kk + 1, _, J, by omega, by omega, by go_num, HKL2.out, HO.out, HC2.out, HJ2.out⟩
        case measure => simp [intOf]; omega
      · have HE := Lib.hid hE
        have HS := Lib.hid hS
        have HC2 := Lib.hid hC2
        clear hE hS hC2
        subst hk0
        go_wp2_with fail
        refine (conn_o HO.out 0 rfl HE.out HS.out HL2.out).mono ?_
        rintro e x7 ⟨rfl, hO, -⟩
        replace HO := Lib.hid (show Own w none0 x7 [resP p ⟨0, 0, [(⟨6, n⟩, 500)], (J ++ [((⟨n, xa, xc⟩ : Ck), (kk : Int))])⟩, rowP u12 hv, blkR bx (.cells #[.int .i64 xa, .int .i64 xc] 49)] from hO)
        clear hO
        clear z2_0 z2_1
        have z2_0 : x7.cell? ⟨bx, 0, none⟩ = some (.int .i64 xa) := HO.out.cell 2 rfl 0 rfl
        have z2_1 : x7.cell? ⟨bx, 1, none⟩ = some (.int .i64 xc) := HO.out.cell 2 rfl 1 rfl
        have rb := run_bsP2
        obtain ⟨x8, hx8⟩ : ∃ y, x7.alloc (.cells #[.int .i64 (xa), .int .i64 (xc)] 49) = y := ⟨_, rfl⟩
        obtain ⟨bn, hbn⟩ : ∃ y, x7.heap.size = y := ⟨_, rfl⟩
        have hO := HO.out.alloc (.cells #[.int .i64 (xa), .int .i64 (xc)] 49)
        rw [hx8, hbn] at hO
        replace HO := Lib.hid (show Own w none0 x8 [resP p ⟨0, 0, [(⟨6, n⟩, 500)], (J ++ [((⟨n, xa, xc⟩ : Ck), (kk : Int))])⟩, rowP u12 hv, blkR bx (.cells #[.int .i64 xa, .int .i64 xc] 49), blkR bn (.cells #[.int .i64 (xa), .int .i64 (xc)] 49)] from hO)
        clear hO
        go_wp2_with ((at_builtin; refine (show _ = True → _ from fun h => of_eq_true h) ?_))
        refine eq_true ?_
        refine wpList_appO rfl (.tmp 87) (.tmp 89) 47 rfl Try.underlying47 infoP2 rfl (by decide) HO.out 1 rfl rfl 3 1 1 [.int .i64 (xa), .int .i64 (xc)] rfl rfl rfl (one2 _ _) (by have := HKL.out; unfold maxLen; omega) (by have := HKL.out; omega) ?_
        intro v9 x9 hO
        clear z2_0 z2_1 rb hx8 hbn
        have e1 : rowR v9 49 2 (hv.length + 1) (hv.flatMap cPr ++ [.int .i64 (xa), .int .i64 (xc)]) = rowP v9 (hv ++ [(xa, xc)]) := by
          show _ = rowR _ _ _ _ _
          rw [List.length_append, List.flatMap_append]; rfl
        simp only [List.set_cons_succ, List.set_cons_zero, e1] at hO
        replace HO := Lib.hid (show Own w none0 x9 [resP p ⟨0, 0, [(⟨6, n⟩, 500)], (J ++ [((⟨n, xa, xc⟩ : Ck), (kk : Int))])⟩, rowP v9 (hv ++ [(xa, xc)])] from hO.take 2)
        clear hO e1
        have HKL2 := Lib.hid (show (hv ++ [((xa, xc) : Int × Int)]).length = kk + 1 by rw [List.length_append, HKL.out]; rfl)
        have HJ2 := Lib.hid (show (J ++ [((⟨n, xa, xc⟩ : Ck), (kk : Int))]).length ≤ kk + 1 by have := HJ.out; simp; omega)
        go_wp2
        go_roundw
        case rel => exact ⟨kk + 1, _, (J ++ [((⟨n, xa, xc⟩ : Ck), (kk : Int))]), by omega, by omega, by go_num, HKL2.out, HO.out, HC2.out, HJ2.out⟩
        case measure => simp [intOf]; omega
    · by_cases h1 : kk < len
      · obtain rfl : kk = 16 := by omega
        obtain ⟨hE, hS, hU, hor⟩ := cp_end HC.out (by have := HKL.out; omega) HV.out (a := ta) (b := tc) ⟨t0, t1⟩ HTC.out
        have HE := Lib.hid hE
        have HS := Lib.hid hS
        have HU := Lib.hid hU
        clear hE hS hU
        obtain ⟨k0, hk0⟩ : ∃ k, atF hv (ta, tc) = k := ⟨_, rfl⟩
        have HK0 := Lib.hid hk0
        rw [hk0] at hor
        clear hk0
        have HL3 := Lib.hid (show (J ++ [((⟨n, 70000, 1⟩ : Ck), (500 : Int))]).length ≤ 1000000 by have := HJ.out; simp; omega)
        obtain ⟨x101, hx101⟩ : ∃ y, wr.alloc (.cells #[.int .i64 ta, .int .i64 tc] 49) = y := ⟨_, rfl⟩
        obtain ⟨bx, hbx⟩ : ∃ y, wr.heap.size = y := ⟨_, rfl⟩
        have hO := HO.out.alloc (.cells #[.int .i64 ta, .int .i64 tc] 49)
        rw [hx101, hbx] at hO
        replace HO := Lib.hid (show Own w none0 x101 [resP p ⟨0, 0, [(⟨6, n⟩, 500)], J⟩, rowP u12 hv, blkR bx (.cells #[.int .i64 ta, .int .i64 tc] 49)] from hO)
        clear hO
        have z2_0 : x101.cell? ⟨bx, 0, none⟩ = some (.int .i64 ta) := HO.out.cell 2 rfl 0 rfl
        have z2_1 : x101.cell? ⟨bx, 1, none⟩ = some (.int .i64 tc) := HO.out.cell 2 rfl 1 rfl
        rcases hor with ⟨hk0, hl1, hl2⟩ | ⟨hk0, hl1, hl2⟩
        · have HL1 := Lib.hid hl1
          have HLK := Lib.hid hl2
          clear hl1 hl2
          have hd0 : decide (0 ≤ k0) = true := by simpa using hk0
          have hd1 : decide (k0 < 0) = false := by simpa using hk0
          go_wp2_with fail
          refine (look_o HO.out 0 rfl HL1.out HL2.out).mono ?_
          rintro e x102 ⟨rfl, hO, -⟩
          replace HO := Lib.hid (show Own w none0 x102 [resP p ⟨0, 0, [(⟨6, n⟩, 500)], J⟩, rowP u12 hv, blkR bx (.cells #[.int .i64 ta, .int .i64 tc] 49)] from hO)
          clear hO
          clear hx101 hbx z2_0 z2_1
          have z2_0 : x102.cell? ⟨bx, 0, none⟩ = some (.int .i64 ta) := HO.out.cell 2 rfl 0 rfl
          have z2_1 : x102.cell? ⟨bx, 1, none⟩ = some (.int .i64 tc) := HO.out.cell 2 rfl 1 rfl
          go_wp2_with fail
          refine (at_o HO.out 1 rfl HK0.out (by have := HKL.out; omega)).mono ?_
          rintro e x103 ⟨rfl, hO, -⟩
          replace HO := Lib.hid (show Own w none0 x103 [resP p ⟨0, 0, [(⟨6, n⟩, 500)], J⟩, rowP u12 hv, blkR bx (.cells #[.int .i64 ta, .int .i64 tc] 49)] from hO)
          clear hO
          clear z2_0 z2_1
          have z2_0 : x103.cell? ⟨bx, 0, none⟩ = some (.int .i64 ta) := HO.out.cell 2 rfl 0 rfl
          have z2_1 : x103.cell? ⟨bx, 1, none⟩ = some (.int .i64 tc) := HO.out.cell 2 rfl 1 rfl
          go_wp2_with fail
          refine (look_o HO.out 0 rfl HU.out HL2.out).mono ?_
          rintro e x104 ⟨rfl, hO, -⟩
          replace HO := Lib.hid (show Own w none0 x104 [resP p ⟨0, 0, [(⟨6, n⟩, 500)], J⟩, rowP u12 hv, blkR bx (.cells #[.int .i64 ta, .int .i64 tc] 49)] from hO)
          clear hO
          clear z2_0 z2_1
          have z2_0 : x104.cell? ⟨bx, 0, none⟩ = some (.int .i64 ta) := HO.out.cell 2 rfl 0 rfl
          have z2_1 : x104.cell? ⟨bx, 1, none⟩ = some (.int .i64 tc) := HO.out.cell 2 rfl 1 rfl
          go_wp2_with fail
          refine (conn_o HO.out 0 rfl HE.out HS.out HL2.out).mono ?_
          rintro e x105 ⟨rfl, hO, -⟩
          replace HO := Lib.hid (show Own w none0 x105 [resP p ⟨0, 0, [(⟨6, n⟩, 500)], J ++ [(⟨n, 70000, 1⟩, 500)]⟩, rowP u12 hv, blkR bx (.cells #[.int .i64 ta, .int .i64 tc] 49)] from hO)
          clear hO
          clear z2_0 z2_1
          have z2_0 : x105.cell? ⟨bx, 0, none⟩ = some (.int .i64 ta) := HO.out.cell 2 rfl 0 rfl
          have z2_1 : x105.cell? ⟨bx, 1, none⟩ = some (.int .i64 tc) := HO.out.cell 2 rfl 1 rfl
          go_wp2_with fail
          refine (look_o HO.out 0 rfl HLK.out HL3.out).mono ?_
          rintro e x106 ⟨rfl, hO, -⟩
          replace HO := Lib.hid (show Own w none0 x106 [resP p ⟨0, 0, [(⟨6, n⟩, 500)], J ++ [(⟨n, 70000, 1⟩, 500)]⟩, rowP u12 hv, blkR bx (.cells #[.int .i64 ta, .int .i64 tc] 49)] from hO)
          clear hO
          clear z2_0 z2_1
          have z2_0 : x106.cell? ⟨bx, 0, none⟩ = some (.int .i64 ta) := HO.out.cell 2 rfl 0 rfl
          have z2_1 : x106.cell? ⟨bx, 1, none⟩ = some (.int .i64 tc) := HO.out.cell 2 rfl 1 rfl
          go_wp2
          go_ret
          exact ⟨rfl, HO.out.below⟩
        · have HL1 := Lib.hid hl1
          have HLK := Lib.hid hl2
          clear hl1 hl2
          subst hk0
          go_wp2_with fail
          refine (look_o HO.out 0 rfl HL1.out HL2.out).mono ?_
          rintro e x102 ⟨rfl, hO, -⟩
          replace HO := Lib.hid (show Own w none0 x102 [resP p ⟨0, 0, [(⟨6, n⟩, 500)], J⟩, rowP u12 hv, blkR bx (.cells #[.int .i64 ta, .int .i64 tc] 49)] from hO)
          clear hO
          clear hx101 hbx z2_0 z2_1
          have z2_0 : x102.cell? ⟨bx, 0, none⟩ = some (.int .i64 ta) := HO.out.cell 2 rfl 0 rfl
          have z2_1 : x102.cell? ⟨bx, 1, none⟩ = some (.int .i64 tc) := HO.out.cell 2 rfl 1 rfl
          go_wp2_with fail
          refine (at_o HO.out 1 rfl HK0.out (by have := HKL.out; omega)).mono ?_
          rintro e x103 ⟨rfl, hO, -⟩
          replace HO := Lib.hid (show Own w none0 x103 [resP p ⟨0, 0, [(⟨6, n⟩, 500)], J⟩, rowP u12 hv, blkR bx (.cells #[.int .i64 ta, .int .i64 tc] 49)] from hO)
          clear hO
          clear z2_0 z2_1
          have z2_0 : x103.cell? ⟨bx, 0, none⟩ = some (.int .i64 ta) := HO.out.cell 2 rfl 0 rfl
          have z2_1 : x103.cell? ⟨bx, 1, none⟩ = some (.int .i64 tc) := HO.out.cell 2 rfl 1 rfl
          go_wp2_with fail
          refine (look_o HO.out 0 rfl HU.out HL2.out).mono ?_
          rintro e x104 ⟨rfl, hO, -⟩
          replace HO := Lib.hid (show Own w none0 x104 [resP p ⟨0, 0, [(⟨6, n⟩, 500)], J⟩, rowP u12 hv, blkR bx (.cells #[.int .i64 ta, .int .i64 tc] 49)] from hO)
          clear hO
          clear z2_0 z2_1
          have z2_0 : x104.cell? ⟨bx, 0, none⟩ = some (.int .i64 ta) := HO.out.cell 2 rfl 0 rfl
          have z2_1 : x104.cell? ⟨bx, 1, none⟩ = some (.int .i64 tc) := HO.out.cell 2 rfl 1 rfl
          go_wp2_with fail
          refine (conn_o HO.out 0 rfl HE.out HS.out HL2.out).mono ?_
          rintro e x105 ⟨rfl, hO, -⟩
          replace HO := Lib.hid (show Own w none0 x105 [resP p ⟨0, 0, [(⟨6, n⟩, 500)], J ++ [(⟨n, 70000, 1⟩, 500)]⟩, rowP u12 hv, blkR bx (.cells #[.int .i64 ta, .int .i64 tc] 49)] from hO)
          clear hO
          clear z2_0 z2_1
          have z2_0 : x105.cell? ⟨bx, 0, none⟩ = some (.int .i64 ta) := HO.out.cell 2 rfl 0 rfl
          have z2_1 : x105.cell? ⟨bx, 1, none⟩ = some (.int .i64 tc) := HO.out.cell 2 rfl 1 rfl
          go_wp2_with fail
          refine (look_o HO.out 0 rfl HLK.out HL3.out).mono ?_
          rintro e x106 ⟨rfl, hO, -⟩
          replace HO := Lib.hid (show Own w none0 x106 [resP p ⟨0, 0, [(⟨6, n⟩, 500)], J ++ [(⟨n, 70000, 1⟩, 500)]⟩, rowP u12 hv, blkR bx (.cells #[.int .i64 ta, .int .i64 tc] 49)] from hO)
          clear hO
          clear z2_0 z2_1
          have z2_0 : x106.cell? ⟨bx, 0, none⟩ = some (.int .i64 ta) := HO.out.cell 2 rfl 0 rfl
          have z2_1 : x106.cell? ⟨bx, 1, none⟩ = some (.int .i64 tc) := HO.out.cell 2 rfl 1 rfl
          go_wp2
          go_ret
          exact ⟨rfl, HO.out.below⟩
      · obtain rfl : kk = len := by omega
        obtain ⟨hE, hS, hU, hor⟩ := cp_end HC.out (by have := HKL.out; omega) HV.out (a := ta) (b := tc) ⟨t0, t1⟩ HTC.out
        have HE := Lib.hid hE
        have HS := Lib.hid hS
        have HU := Lib.hid hU
        clear hE hS hU
        obtain ⟨k0, hk0⟩ : ∃ k, atF hv (ta, tc) = k := ⟨_, rfl⟩
        have HK0 := Lib.hid hk0
        rw [hk0] at hor
        clear hk0
        have HL3 := Lib.hid (show (J ++ [((⟨n, 70000, 1⟩ : Ck), (500 : Int))]).length ≤ 1000000 by have := HJ.out; simp; omega)
        obtain ⟨x101, hx101⟩ : ∃ y, wr.alloc (.cells #[.int .i64 ta, .int .i64 tc] 49) = y := ⟨_, rfl⟩
        obtain ⟨bx, hbx⟩ : ∃ y, wr.heap.size = y := ⟨_, rfl⟩
        have hO := HO.out.alloc (.cells #[.int .i64 ta, .int .i64 tc] 49)
        rw [hx101, hbx] at hO
        replace HO := Lib.hid (show Own w none0 x101 [resP p ⟨0, 0, [(⟨6, n⟩, 500)], J⟩, rowP u12 hv, blkR bx (.cells #[.int .i64 ta, .int .i64 tc] 49)] from hO)
        clear hO
        have z2_0 : x101.cell? ⟨bx, 0, none⟩ = some (.int .i64 ta) := HO.out.cell 2 rfl 0 rfl
        have z2_1 : x101.cell? ⟨bx, 1, none⟩ = some (.int .i64 tc) := HO.out.cell 2 rfl 1 rfl
        rcases hor with ⟨hk0, hl1, hl2⟩ | ⟨hk0, hl1, hl2⟩
        · have HL1 := Lib.hid hl1
          have HLK := Lib.hid hl2
          clear hl1 hl2
          have hd0 : decide (0 ≤ k0) = true := by simpa using hk0
          have hd1 : decide (k0 < 0) = false := by simpa using hk0
          go_wp2_with fail
          refine (look_o HO.out 0 rfl HL1.out HL2.out).mono ?_
          rintro e x102 ⟨rfl, hO, -⟩
          replace HO := Lib.hid (show Own w none0 x102 [resP p ⟨0, 0, [(⟨6, n⟩, 500)], J⟩, rowP u12 hv, blkR bx (.cells #[.int .i64 ta, .int .i64 tc] 49)] from hO)
          clear hO
          clear hx101 hbx z2_0 z2_1
          have z2_0 : x102.cell? ⟨bx, 0, none⟩ = some (.int .i64 ta) := HO.out.cell 2 rfl 0 rfl
          have z2_1 : x102.cell? ⟨bx, 1, none⟩ = some (.int .i64 tc) := HO.out.cell 2 rfl 1 rfl
          go_wp2_with fail
          refine (at_o HO.out 1 rfl HK0.out (by have := HKL.out; omega)).mono ?_
          rintro e x103 ⟨rfl, hO, -⟩
          replace HO := Lib.hid (show Own w none0 x103 [resP p ⟨0, 0, [(⟨6, n⟩, 500)], J⟩, rowP u12 hv, blkR bx (.cells #[.int .i64 ta, .int .i64 tc] 49)] from hO)
          clear hO
          clear z2_0 z2_1
          have z2_0 : x103.cell? ⟨bx, 0, none⟩ = some (.int .i64 ta) := HO.out.cell 2 rfl 0 rfl
          have z2_1 : x103.cell? ⟨bx, 1, none⟩ = some (.int .i64 tc) := HO.out.cell 2 rfl 1 rfl
          go_wp2_with fail
          refine (look_o HO.out 0 rfl HU.out HL2.out).mono ?_
          rintro e x104 ⟨rfl, hO, -⟩
          replace HO := Lib.hid (show Own w none0 x104 [resP p ⟨0, 0, [(⟨6, n⟩, 500)], J⟩, rowP u12 hv, blkR bx (.cells #[.int .i64 ta, .int .i64 tc] 49)] from hO)
          clear hO
          clear z2_0 z2_1
          have z2_0 : x104.cell? ⟨bx, 0, none⟩ = some (.int .i64 ta) := HO.out.cell 2 rfl 0 rfl
          have z2_1 : x104.cell? ⟨bx, 1, none⟩ = some (.int .i64 tc) := HO.out.cell 2 rfl 1 rfl
          go_wp2_with fail
          refine (conn_o HO.out 0 rfl HE.out HS.out HL2.out).mono ?_
          rintro e x105 ⟨rfl, hO, -⟩
          replace HO := Lib.hid (show Own w none0 x105 [resP p ⟨0, 0, [(⟨6, n⟩, 500)], J ++ [(⟨n, 70000, 1⟩, 500)]⟩, rowP u12 hv, blkR bx (.cells #[.int .i64 ta, .int .i64 tc] 49)] from hO)
          clear hO
          clear z2_0 z2_1
          have z2_0 : x105.cell? ⟨bx, 0, none⟩ = some (.int .i64 ta) := HO.out.cell 2 rfl 0 rfl
          have z2_1 : x105.cell? ⟨bx, 1, none⟩ = some (.int .i64 tc) := HO.out.cell 2 rfl 1 rfl
          go_wp2_with fail
          refine (look_o HO.out 0 rfl HLK.out HL3.out).mono ?_
          rintro e x106 ⟨rfl, hO, -⟩
          replace HO := Lib.hid (show Own w none0 x106 [resP p ⟨0, 0, [(⟨6, n⟩, 500)], J ++ [(⟨n, 70000, 1⟩, 500)]⟩, rowP u12 hv, blkR bx (.cells #[.int .i64 ta, .int .i64 tc] 49)] from hO)
          clear hO
          clear z2_0 z2_1
          have z2_0 : x106.cell? ⟨bx, 0, none⟩ = some (.int .i64 ta) := HO.out.cell 2 rfl 0 rfl
          have z2_1 : x106.cell? ⟨bx, 1, none⟩ = some (.int .i64 tc) := HO.out.cell 2 rfl 1 rfl
          go_wp2
          go_ret
          exact ⟨rfl, HO.out.below⟩
        · have HL1 := Lib.hid hl1
          have HLK := Lib.hid hl2
          clear hl1 hl2
          subst hk0
          go_wp2_with fail
          refine (look_o HO.out 0 rfl HL1.out HL2.out).mono ?_
          rintro e x102 ⟨rfl, hO, -⟩
          replace HO := Lib.hid (show Own w none0 x102 [resP p ⟨0, 0, [(⟨6, n⟩, 500)], J⟩, rowP u12 hv, blkR bx (.cells #[.int .i64 ta, .int .i64 tc] 49)] from hO)
          clear hO
          clear hx101 hbx z2_0 z2_1
          have z2_0 : x102.cell? ⟨bx, 0, none⟩ = some (.int .i64 ta) := HO.out.cell 2 rfl 0 rfl
          have z2_1 : x102.cell? ⟨bx, 1, none⟩ = some (.int .i64 tc) := HO.out.cell 2 rfl 1 rfl
          go_wp2_with fail
          refine (at_o HO.out 1 rfl HK0.out (by have := HKL.out; omega)).mono ?_
          rintro e x103 ⟨rfl, hO, -⟩
          replace HO := Lib.hid (show Own w none0 x103 [resP p ⟨0, 0, [(⟨6, n⟩, 500)], J⟩, rowP u12 hv, blkR bx (.cells #[.int .i64 ta, .int .i64 tc] 49)] from hO)
          clear hO
          clear z2_0 z2_1
          have z2_0 : x103.cell? ⟨bx, 0, none⟩ = some (.int .i64 ta) := HO.out.cell 2 rfl 0 rfl
          have z2_1 : x103.cell? ⟨bx, 1, none⟩ = some (.int .i64 tc) := HO.out.cell 2 rfl 1 rfl
          go_wp2_with fail
          refine (look_o HO.out 0 rfl HU.out HL2.out).mono ?_
          rintro e x104 ⟨rfl, hO, -⟩
          replace HO := Lib.hid (show Own w none0 x104 [resP p ⟨0, 0, [(⟨6, n⟩, 500)], J⟩, rowP u12 hv, blkR bx (.cells #[.int .i64 ta, .int .i64 tc] 49)] from hO)
          clear hO
          clear z2_0 z2_1
          have z2_0 : x104.cell? ⟨bx, 0, none⟩ = some (.int .i64 ta) := HO.out.cell 2 rfl 0 rfl
          have z2_1 : x104.cell? ⟨bx, 1, none⟩ = some (.int .i64 tc) := HO.out.cell 2 rfl 1 rfl
          go_wp2_with fail
          refine (conn_o HO.out 0 rfl HE.out HS.out HL2.out).mono ?_
          rintro e x105 ⟨rfl, hO, -⟩
          replace HO := Lib.hid (show Own w none0 x105 [resP p ⟨0, 0, [(⟨6, n⟩, 500)], J ++ [(⟨n, 70000, 1⟩, 500)]⟩, rowP u12 hv, blkR bx (.cells #[.int .i64 ta, .int .i64 tc] 49)] from hO)
          clear hO
          clear z2_0 z2_1
          have z2_0 : x105.cell? ⟨bx, 0, none⟩ = some (.int .i64 ta) := HO.out.cell 2 rfl 0 rfl
          have z2_1 : x105.cell? ⟨bx, 1, none⟩ = some (.int .i64 tc) := HO.out.cell 2 rfl 1 rfl
          go_wp2_with fail
          refine (look_o HO.out 0 rfl HLK.out HL3.out).mono ?_
          rintro e x106 ⟨rfl, hO, -⟩
          replace HO := Lib.hid (show Own w none0 x106 [resP p ⟨0, 0, [(⟨6, n⟩, 500)], J ++ [(⟨n, 70000, 1⟩, 500)]⟩, rowP u12 hv, blkR bx (.cells #[.int .i64 ta, .int .i64 tc] 49)] from hO)
          clear hO
          clear z2_0 z2_1
          have z2_0 : x106.cell? ⟨bx, 0, none⟩ = some (.int .i64 ta) := HO.out.cell 2 rfl 0 rfl
          have z2_1 : x106.cell? ⟨bx, 1, none⟩ = some (.int .i64 tc) := HO.out.cell 2 rfl 1 rfl
          go_wp2
          go_ret
          exact ⟨rfl, HO.out.below⟩

end Go.Proofs.Ytfipamdknanlmaa
