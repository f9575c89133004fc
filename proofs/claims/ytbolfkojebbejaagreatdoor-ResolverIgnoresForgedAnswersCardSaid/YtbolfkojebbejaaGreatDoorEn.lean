/- The reference of chapter 19: put, name, record, Valid, Encode at a valid message. Printed by wip/tools/gen21p.py. -/
import Derived.Test.YtbolfkojebbejaaGreatDoorRw
import Derived.Test.YtbolfkojebbejaaGreatDoorDx
set_option linter.unusedVariables false
set_option maxRecDepth 100000
set_option maxHeartbeats 32000000
namespace Go.Proofs.YtbolfkojebbejaaGreatDoor
open Go.RowKit Go.Sort
variable {s : ByteArray} {nm : ByteArray} {rs : List Rc}
attribute [local go_sem] Oper.semAt_some

theorem cat_l (x y : List UInt8) (hx : x.length ≤ 1000) (hy : y.length ≤ 1000) (w : World) : (binOp .add 9 (.string ⟨x.toArray⟩) (.string ⟨y.toArray⟩)).run Tryz.prog w = .ok (.string ⟨(x ++ y).toArray⟩) w := by
 rw [binOp_string_add]
 have h2 := run_string_add (P := Tryz.prog) w ⟨x.toArray⟩ ⟨y.toArray⟩ (by show ((x.toArray.size : Nat) : Int) ≤ _; simp; omega) (by show ((y.toArray.size : Nat) : Int) ≤ _; simp; omega)
 rw [h2]
 congr 3
theorem app_l (x y : List UInt8) : (⟨x.toArray⟩ : ByteArray) ++ ⟨y.toArray⟩ = ⟨(x ++ y).toArray⟩ := by
 apply ByteArray.ext
 rw [ByteArray.data_append]
 simp
theorem power_r {k : Nat} (w : World) (hk : k ≤ 4) {r : Int} (hr : (256 : Int) ^ k = r) : Calls Tryz.prog 198 #[.int .i64 k] w fun e w' => e = .returned (.int .i64 r) ∧ w = w' := by
 have HR := Hi hr
 clear hr
 go_enter Tryz.func198, Tryz.ntmps198
 go_wp2
 go_loopw [3, 4] (fun nv iv wr => ∃ i : Nat, i ≤ k ∧ iv = .int .i64 i ∧ nv = .int .i64 ((256 : Int) ^ i) ∧ w = wr) (fun _ iv _ => k - (intOf iv).toNat)
 case atStart => exact ⟨0, Nat.zero_le _, rfl, rfl, rfl⟩
 case round =>
  obtain ⟨i, hi, rfl, rfl, rfl⟩ := hrel
  have hb : (k : Int) ≤ 4 := by omega
  by_cases hlt : i < k
  ·
   have hp : i < 4 := by omega
   have h1 : (0 : Int) ≤ (256 : Int) ^ i ∧ (256 : Int) ^ i ≤ 16777216 := by
    have : i = 0 ∨ i = 1 ∨ i = 2 ∨ i = 3 := by omega
    rcases this with h | h | h | h <;> subst h <;> decide
   have h2 : (256 : Int) ^ (i + 1) = 256 * (256 : Int) ^ i := by rw [Int.pow_succ]; omega
   have H2 := Hi h2
   clear h2
   generalize (256 : Int) ^ i = p at *
   obtain ⟨h3, h4⟩ := h1
   have hd : decide ((i : Int) < (k : Int)) = true := decide_eq_true (by omega)
   go_wp2
   go_roundw
   case rel => exact ⟨i + 1, by omega, by go_num, by rw [H2.out], trivial⟩
   case measure => simp [intOf]; omega
  ·
   obtain rfl : i = k := by omega
   have hd : decide ((i : Int) < (i : Int)) = false := decide_eq_false (by omega)
   go_wp2
   go_ret
   exact ⟨by rw [HR.out]; rfl, rfl⟩
theorem run_bsU (m : Int) (w : World) : (Instr.buildSlice 109 1 #[(0, .int .u8 m)]).run Tryz.prog w = .ok (.slice (some ⟨w.heap.size, 0, none⟩) 1 1) (w.alloc (.cells #[.int .u8 m] 5)) := by kernel_rfl
theorem put01_r {k : Nat} {n r : Int} (w : World) (hk : 1 ≤ k ∧ k ≤ 4) (hr : (256 : Int) ^ k = r) (h0 : 0 ≤ n) (h1 : n < r) : Calls Tryz.prog 163 #[.int .i64 n, .int .i64 k] w fun e w' => e = .returned (.tuple #[.string ⟨(beN k n).toArray⟩, .int .i64 0]) ∧ Below w.heap.size w w' := by
 have HP := Hi (fun w => power_r (k := k) w hk.2 hr)
 have hb : 1 ≤ (k : Int) ∧ (k : Int) ≤ 4 := by omega
 obtain ⟨hb1, hb2⟩ := hb
 have hrr : r ≤ 4294967296 := by
  rw [← hr]
  have : k = 1 ∨ k = 2 ∨ k = 3 ∨ k = 4 := by omega
  rcases this with h | h | h | h <;> subst h <;> decide
 clear hr
 have HO := Hi (Own.nil w none0)
 go_enter Tryz.func163, Tryz.ntmps163
 go_wp2_with fail
 refine (HP.out w).mono ?_
 rintro e xp ⟨rfl, rfl⟩
 go_wp2
 go_loopw [0, 6, 7] (fun nv sv iv wr => ∃ i : Nat, i ≤ k ∧ iv = .int .i64 i ∧ nv = .int .i64 (n / 256 ^ i) ∧ sv = .string ⟨(beN i n).toArray⟩ ∧ Own w none0 wr []) (fun _ _ iv _ => k - (intOf iv).toNat)
 case atStart => exact ⟨0, Nat.zero_le _, rfl, by simp, rfl, HO.out⟩
 case round =>
  obtain ⟨i, hi, rfl, rfl, rfl, hO⟩ := hrel
  have HO2 := Hi hO
  clear hO HO HP
  by_cases hlt : i < k
  ·
   have hd : decide ((i : Int) < (k : Int)) = true := decide_eq_true (by omega)
   have H2 := Hi (show n / 256 ^ (i + 1) = n / 256 ^ i / 256 by rw [Int.pow_succ, Int.ediv_ediv_of_nonneg (by exact Int.pow_nonneg (by decide))])
   have hq : 0 ≤ n / 256 ^ i ∧ n / 256 ^ i ≤ 4294967296 := ⟨Int.ediv_nonneg h0 (Int.pow_nonneg (by decide)), Int.le_trans (Int.ediv_le_self _ h0) (by omega)⟩
   have HB := Hi (show n / 256 ^ i % 256 = ((by8 n i).toNat : Int) from (by8_val n i).symm)
   obtain ⟨q, hqe⟩ : ∃ q, n / 256 ^ i = q := ⟨_, rfl⟩
   rw [hqe] at H2 hq HB ⊢
   clear hqe
   obtain ⟨hq0, hq1⟩ := hq
   obtain ⟨m, hm⟩ : ∃ m, q % 256 = m := ⟨_, rfl⟩
   have hm0 : 0 ≤ m ∧ m < 256 := by omega
   obtain ⟨hm1, hm2⟩ := hm0
   have hmu : IntKind.u8.wrap m = m := by simp [IntKind.wrap, IntKind.bits, IntKind.signed]; omega
   have HC := Hi (show [Value.int .u8 m] = Lib.byteCells [by8 n i] by rw [← hm, HB.out]; rfl)
   have rb := run_bsU m
   obtain ⟨x20, hx20⟩ : ∃ y, wr.alloc (.cells #[.int .u8 m] 5) = y := ⟨_, rfl⟩
   obtain ⟨bb, hbb⟩ : ∃ y, wr.heap.size = y := ⟨_, rfl⟩
   have hO := HO2.out.allocN #[.int .u8 m] 5 1 1 rfl (by decide)
   rw [hx20, hbb] at hO
   have HO := Hi (show Own w none0 x20 [rowR (.slice (some ⟨bb, 0, none⟩) 1 1) 5 1 1 (Lib.byteCells [by8 n i])] by rw [← HC.out]; exact hO)
   have hcv := conv_bytes (HO.out.row 0 rfl)
   have hln : (beN i n).length = i := beN_len i n
   clear hO
   go_wp2
   refine ⟨⟨i + 1, by omega, by go_num, by rw [H2.out], ?_, HO.out.take 0⟩, ?_⟩
   ·
    rw [show (⟨#[by8 n i]⟩ : ByteArray) = ⟨[by8 n i].toArray⟩ from rfl, app_l]; rfl
   ·
    simp [intOf]; omega
  ·
   obtain rfl : i = k := by omega
   have hd : decide ((i : Int) < (i : Int)) = false := decide_eq_false (by omega)
   go_wp2
   go_ret2
   exact ⟨rfl, HO2.out.below⟩
theorem put19_r {k : Nat} {n r : Int} (w : World) (hk : 1 ≤ k ∧ k ≤ 4) (hr : (256 : Int) ^ k = r) (h0 : 0 ≤ n) (h1 : n < r) : Calls Tryz.prog 118 #[.int .i64 n, .int .i64 k] w fun e w' => e = .returned (.string ⟨(beN k n).toArray⟩) ∧ Below w.heap.size w w' := by
 have HP := Hi (fun w => put01_r (k := k) (n := n) w hk hr h0 h1)
 clear hk hr h0 h1
 go_enter Tryz.func118, Tryz.ntmps118
 go_wp2_with fail
 refine (HP.out w).mono ?_
 rintro e w1 ⟨rfl, hb⟩
 go_wp2
 go_ret
 exact ⟨rfl, hb⟩
theorem put19_1 {n : Int} (w : World) (h0 : 0 ≤ n) (h1 : n < 256) : Calls Tryz.prog 118 #[.int .i64 n, .int .i64 1] w fun e w' => e = .returned (.string ⟨(beN 1 n).toArray⟩) ∧ Below w.heap.size w w' := put19_r (k := 1) w (by decide) rfl h0 h1
theorem put19_2 {n : Int} (w : World) (h0 : 0 ≤ n) (h1 : n < 65536) : Calls Tryz.prog 118 #[.int .i64 n, .int .i64 2] w fun e w' => e = .returned (.string ⟨(beN 2 n).toArray⟩) ∧ Below w.heap.size w w' := put19_r (k := 2) w (by decide) rfl h0 h1
theorem put19_4 {n : Int} (w : World) (h0 : 0 ≤ n) (h1 : n < 4294967296) : Calls Tryz.prog 118 #[.int .i64 n, .int .i64 4] w fun e w' => e = .returned (.string ⟨(beN 4 n).toArray⟩) ∧ Below w.heap.size w w' := put19_r (k := 4) w (by decide) rfl h0 h1
theorem encLs_take {l : List (List UInt8)} {k : Nat} (hk : k < l.length) : encLs (l.take (k + 1)) = encLs (l.take k) ++ beN 1 (l[k].length : Int) ++ l[k] := by
 unfold encLs
 rw [List.take_succ_eq_append_getElem hk, List.flatMap_append]
 simp [encL1]
theorem sum_take_le : ∀ (l : List Nat) (k : Nat), (l.take k).sum ≤ l.sum
 | [], k => by simp
 | x :: l, 0 => by simp
 | x :: l, k + 1 => by simp; exact sum_take_le l k
theorem name19_r (w : World) (hs : s.size ≤ 200) {r : ByteArray} (hr : ⟨(encNm s).toArray⟩ = r) : Calls Tryz.prog 119 #[.string s] w fun e w' => e = .returned (.string r) ∧ Below w.heap.size w w' := by
 have HR := Hi hr
 clear hr
 go_enter Tryz.func119, Tryz.ntmps119
 go_wp2_with fail
 refine (labels19_any s w (by omega)).mono ?_
 rintro e x1 ⟨v, rfl, hO, -⟩
 have hll := hs
 obtain ⟨ls, hls⟩ : ∃ ls, pcs s.data.toList = ls := ⟨_, rfl⟩
 have HLB := Hi (show ∀ x ∈ ls, x.length ≤ 200 from fun x hx => by rw [← hls] at hx; have := pcs_mem x hx; have := Lib.size_eq s; omega)
 have HLN := Hi (show ls.length ≤ 201 by rw [← hls]; have := pcs_len s.data.toList; have := Lib.size_eq s; omega)
 have HSM := Hi (show ∀ k, (encLs (ls.take k)).length ≤ 201 from fun k => by
  rw [encLs_len, List.map_take]
  have h1 := sum_take_le (ls.map fun x => x.length + 1) k
  have h2 := pcs_sum s.data.toList
  rw [hls] at h2
  have := Lib.size_eq s
  omega)
 have HE := Hi (show ⟨(encLs ls ++ [0]).toArray⟩ = r by rw [← HR.out, ← hls]; rfl)
 rw [hls] at hO
 clear hls hll HR
 obtain ⟨n, hn⟩ : ∃ n, ls.length = n := ⟨_, rfl⟩
 have HN := Hi hn
 rw [hn] at HLN
 have hO1 : Own w none0 x1 [rowR v 9 1 n (ls.map cStr)] := by rw [← hn]; exact ((Own.nil w none0).joinC hO)
 obtain ⟨a, c, rfl⟩ := row_shape (hO1.row 0 rfl)
 have HO := Hi hO1
 have hb : (n : Int) ≤ 201 := by have := HLN.out; omega
 clear hn hO hO1 HLN
 go_wp2
 go_loopw [3, 5] (fun sv iv wr => ∃ i : Nat, i ≤ n ∧ iv = .int .i64 i ∧ sv = .string ⟨(encLs (ls.take i)).toArray⟩ ∧ Own w none0 wr [rowR (.slice a n c) 9 1 n (ls.map cStr)]) (fun _ iv _ => n - (intOf iv).toNat)
 case atStart => exact ⟨0, Nat.zero_le _, rfl, rfl, HO.out⟩
 case round =>
  obtain ⟨i, hi, rfl, rfl, hO⟩ := hrel
  clear HO
  have HO := Hi hO
  clear hO
  by_cases hlt : i < n
  ·
   have hd : decide ((i : Int) < (n : Int)) = true := decide_eq_true (by omega)
   have hkl : i < ls.length := by rw [HN.out]; exact hlt
   have HT := Hi (encLs_take hkl)
   have HS1 := Hi (HSM.out i)
   have HX := Hi (HLB.out _ (List.getElem_mem hkl))
   obtain ⟨g, rfl⟩ := row_some (HO.out.row 0 rfl) (by omega)
   have c0 : wr.cell? ⟨g, i, none⟩ = some (.string ⟨ls[i].toArray⟩) := (row_cells (HO.out.row 0 rfl)).1 i _ (by rw [List.getElem?_map, List.getElem?_eq_getElem hkl]; rfl)
   generalize ls[i] = x at *
   have hxl := HX.out
   have hsl := HS1.out
   have HP := Hi (fun w => put19_1 (n := (x.length : Int)) w (by omega) (by omega))
   have hsz : ((⟨x.toArray⟩ : ByteArray).size : Int) = (x.length : Int) := by rw [mk_size]
   obtain ⟨sb, hsb⟩ : ∃ y, encLs (ls.take i) = y := ⟨_, rfl⟩
   obtain ⟨pb, hpb⟩ : ∃ y, beN 1 (x.length : Int) = y := ⟨_, rfl⟩
   have hpl : pb.length = 1 := by rw [← hpb, beN_len]
   rw [hsb] at HT hsl ⊢
   rw [hpb] at HT HP
   have e1 := cat_l sb pb (by omega) (by omega)
   have e2 := cat_l (sb ++ pb) x (by rw [List.length_append]; omega) (by omega)
   have q0 := cell_regrown c0
   go_wp2
   refine wp_region_B (by kernel_rfl) (by kernel_rfl) ?_
   repeat (go_big_quiet_step ((go_at_call 118; exact Calls.regrown_of (HP.out _))))
   refine wpQuiet_nil ?_
   intro y1 hbw
   have hO := HO.out.stay hbw
   replace HO := Hi hO
   clear hO hbw q0 c0 e1 e2
   go_wp2
   refine ⟨⟨i + 1, by omega, by go_num, ?_, HO.out⟩, ?_⟩
   ·
    rw [app_l, app_l, HT.out]
   ·
    simp [intOf]; omega
  ·
   obtain rfl : i = n := by omega
   have hd : decide ((i : Int) < (i : Int)) = false := decide_eq_false (by omega)
   have HT := Hi (show ls.take i = ls by rw [← HN.out]; exact List.take_length)
   have HS1 := Hi (HSM.out i)
   rw [HT.out] at HS1 ⊢
   have hsl := HS1.out
   have hl0 : (beN 1 0).length = 1 := rfl
   go_wp2_with fail
   refine (put19_1 (n := 0) wr (by decide) (by decide)).mono ?_
   rintro e y2 ⟨rfl, hb2⟩
   have HOF := Hi (HO.out.stay hb2)
   go_wp2
   go_ret
   exact ⟨by rw [app_l, ← HE.out]; rfl, HOF.out.below⟩
theorem rec19_1 (nm : ByteArray) (tt ad : Int) (to : ByteArray) (w : World) (hn : vname nm = true) (t0 : 0 ≤ tt) (t9 : tt ≤ 1000) (ha : adrOk ad = true) (hto : to.toList = []) : Calls Tryz.prog 162 #[.agg #[.string nm, .int .i64 1, .int .i64 tt, .int .i64 ad, .string to]] w fun e w' => e = .returned (.bool true) ∧ Below w.heap.size w w' := by
 obtain rfl := eq_nil_bytes hto
 clear hto
 have HN := Hi (fun w => vn19_r hn w)
 have HA := Hi (fun w => adr3_r (a := ad) ha w)
 have HO := Hi (Own.nil w none0)
 clear hn ha
 obtain ⟨x11, hx11, bx, hbx, hO⟩ := HO.out.allocE (.cells #[.string nm, .int .i64 1, .int .i64 tt, .int .i64 ad, .string ⟨#[]⟩] 49)
 replace HO := Hi (show Own w none0 x11 [blkR bx (.cells #[.string nm, .int .i64 1, .int .i64 tt, .int .i64 ad, .string ⟨#[]⟩] 49)] from hO)
 clear hO
 obtain ⟨z0_0, z0_1, z0_2, z0_3, z0_4⟩ := HO.out.c5 0 rfl
 go_enter Tryz.func162, Tryz.ntmps162
 go_wp2_with fail
 refine (o_still HO.out (HN.out _)).mono ?_
 rintro e x12 ⟨rfl, hO, -⟩
 replace HO := Hi hO
 clear hO
 clear hx11 hbx z0_0 z0_1 z0_2 z0_3 z0_4
 obtain ⟨z0_0, z0_1, z0_2, z0_3, z0_4⟩ := HO.out.c5 0 rfl
 go_wp2_with fail
 refine (HA.out _).mono ?_
 rintro e xp ⟨rfl, rfl⟩
 go_wp2
 go_ret
 exact ⟨rfl, HO.out.below⟩
theorem rec19_2 (nm : ByteArray) (tt : Int) (to : ByteArray) (w : World) (hn : vname nm = true) (t0 : 0 ≤ tt) (t9 : tt ≤ 1000) (ht : vname to = true) : Calls Tryz.prog 162 #[.agg #[.string nm, .int .i64 2, .int .i64 tt, .int .i64 0, .string to]] w fun e w' => e = .returned (.bool true) ∧ Below w.heap.size w w' := by
 have HN := Hi (fun w => vn19_r hn w)
 have HT := Hi (fun w => vn19_r ht w)
 have HO := Hi (Own.nil w none0)
 clear hn ht
 obtain ⟨x11, hx11, bx, hbx, hO⟩ := HO.out.allocE (.cells #[.string nm, .int .i64 2, .int .i64 tt, .int .i64 0, .string to] 49)
 replace HO := Hi (show Own w none0 x11 [blkR bx (.cells #[.string nm, .int .i64 2, .int .i64 tt, .int .i64 0, .string to] 49)] from hO)
 clear hO
 obtain ⟨z0_0, z0_1, z0_2, z0_3, z0_4⟩ := HO.out.c5 0 rfl
 go_enter Tryz.func162, Tryz.ntmps162
 go_wp2_with fail
 refine (o_still HO.out (HN.out _)).mono ?_
 rintro e x12 ⟨rfl, hO, -⟩
 replace HO := Hi hO
 clear hO
 clear hx11 hbx z0_0 z0_1 z0_2 z0_3 z0_4
 obtain ⟨z0_0, z0_1, z0_2, z0_3, z0_4⟩ := HO.out.c5 0 rfl
 go_wp2_with fail
 refine (o_still HO.out (HT.out _)).mono ?_
 rintro e x13 ⟨rfl, hO, -⟩
 replace HO := Hi hO
 clear hO
 clear z0_0 z0_1 z0_2 z0_3 z0_4
 go_wp2
 go_ret
 exact ⟨rfl, HO.out.below⟩
theorem rec19_r (r : Rc) (w : World) (h : RcV r) : Calls Tryz.prog 162 #[rcV r] w fun e w' => e = .returned (.bool true) ∧ Below w.heap.size w w' := by
 obtain ⟨nm, kd, tt, ad, to⟩ := r
 obtain ⟨h1, h2, h3, h4⟩ := h
 rcases h4 with ⟨h5, h6, h7⟩ | ⟨h5, h6, h7⟩
 ·
  simp only at h5; subst h5
  exact rec19_1 nm tt ad to w h1 h2 h3 h6 h7
 ·
  simp only at h5 h7; subst h5 h7
  exact rec19_2 nm tt to w h1 h2 h3 h6
theorem valid19_t1 (id cd : Int) (nm : ByteArray) (a : Option Addr) (n cap : Nat) (rs : List Rc) (w : World) (hr : w.ownsRow 0 49 5 (.slice a n cap) n (rs.flatMap cRc)) (hn : rs.length = n) (h1 : 0 ≤ id) (h2 : id ≤ 65535) (h3 : 0 ≤ cd) (h4 : cd ≤ 2) (hv : vname nm = true) (h8 : n ≤ 8) (hrs : ∀ r ∈ rs, RcV r) :
  Calls Tryz.prog 117 #[.agg #[.int .i64 id, .bool true, .int .i64 cd, .string nm, .int .i64 1, .slice a n cap]] w fun e w' => e = .returned (.bool true) ∧ Below w.heap.size w w' := by
 have HV := Hi (fun w => vn19_r hv w)
 have HR := Hi hr
 have HN := Hi hn
 have HRS := Hi hrs
 have hb : (n : Int) ≤ 8 := by omega
 have HO := Hi (Own.nil w none0)
 clear hv hr hn hrs
 obtain ⟨x11, hx11, bx, hbx, hO⟩ := HO.out.allocE (.cells #[.int .i64 id, .bool true, .int .i64 cd, .string nm, .int .i64 1, .slice a n cap] 86)
 replace HO := Hi (show Own w none0 x11 [blkR bx (.cells #[.int .i64 id, .bool true, .int .i64 cd, .string nm, .int .i64 1, .slice a n cap] 86)] from hO)
 clear hO
 obtain ⟨z0_0, z0_1, z0_2, z0_3, z0_4, z0_5⟩ := HO.out.c6 0 rfl
 go_enter Tryz.func117, Tryz.ntmps117
 go_wp2_with fail
 refine (o_still HO.out (HV.out _)).mono ?_
 rintro e x12 ⟨rfl, hO, -⟩
 replace HO := Hi hO
 clear hO
 clear hx11 hbx z0_0 z0_1 z0_2 z0_3 z0_4 z0_5
 obtain ⟨z0_0, z0_1, z0_2, z0_3, z0_4, z0_5⟩ := HO.out.c6 0 rfl
 go_wp2
 clear z0_0 z0_1 z0_2 z0_3 z0_4 z0_5
 go_loopw [3] (fun iv wr => ∃ i : Nat, i ≤ n ∧ iv = .int .i64 i ∧ Own w none0 wr [blkR bx (.cells #[.int .i64 id, .bool true, .int .i64 cd, .string nm, .int .i64 1, .slice a n cap] 86)]) (fun iv _ => n - (intOf iv).toNat)
 case atStart => exact ⟨0, Nat.zero_le _, rfl, HO.out⟩
 case round =>
  obtain ⟨i, hi, rfl, hO⟩ := hrel
  clear HO
  have HO := Hi hO
  clear hO
  by_cases hlt : i < n
  ·
   have hd : decide ((i : Int) < (n : Int)) = true := decide_eq_true (by omega)
   have hkl : i < rs.length := by rw [HN.out]; exact hlt
   have hrw := row_stayB HR.out HO.out.below
   obtain ⟨g, rfl⟩ := row_some hrw (by omega)
   have yc : ∀ q u, q < 5 → (cRc rs[i])[q]? = some u → wr.cell? ⟨g, i * 5 + q, none⟩ = some u := fun q u hq hu => (row_cells hrw).1 _ _ (by rw [flat_getR cRc 5 (fun _ => rfl) rs i hkl q hq]; exact hu)
   have HRC := Hi (fun w => rec19_r rs[i] w (HRS.out _ (List.getElem_mem hkl)))
   generalize rs[i] = r at *
   obtain ⟨rn, rk, rt, rd, ro⟩ := r
   have y0 : wr.cell? ⟨g, i * 5, none⟩ = some (.string rn) := yc 0 _ (by decide) rfl
   have y1 : wr.cell? ⟨g, i * 5 + 1, none⟩ = some (.int .i64 rk) := yc 1 _ (by decide) rfl
   have y2 : wr.cell? ⟨g, i * 5 + 2, none⟩ = some (.int .i64 rt) := yc 2 _ (by decide) rfl
   have y3 : wr.cell? ⟨g, i * 5 + 3, none⟩ = some (.int .i64 rd) := yc 3 _ (by decide) rfl
   have y4 : wr.cell? ⟨g, i * 5 + 4, none⟩ = some (.string ro) := yc 4 _ (by decide) rfl
   clear yc hrw hkl
   replace HO := Hi (show Own w none0 wr [blkR bx (.cells #[.int .i64 id, .bool true, .int .i64 cd, .string nm, .int .i64 1, .slice (some ⟨g, 0, none⟩) n cap] 86)] from HO.out)
   obtain ⟨z0_0, z0_1, z0_2, z0_3, z0_4, z0_5⟩ := HO.out.c6 0 rfl
   go_wp2_with fail
   refine (o_still HO.out (HRC.out _)).mono ?_
   rintro e x31 ⟨rfl, hO, -⟩
   replace HO := Hi hO
   clear hO
   clear z0_0 z0_1 z0_2 z0_3 z0_4 z0_5
   clear y0 y1 y2 y3 y4
   go_wp2
   go_roundw
   case rel => exact ⟨i + 1, by omega, by go_num, HO.out⟩
   case measure => simp [intOf]; omega
  ·
   obtain rfl : i = n := by omega
   have hd : decide ((i : Int) < (i : Int)) = false := decide_eq_false (by omega)
   replace HO := Hi (show Own w none0 wr [blkR bx (.cells #[.int .i64 id, .bool true, .int .i64 cd, .string nm, .int .i64 1, .slice a i cap] 86)] from HO.out)
   obtain ⟨z0_0, z0_1, z0_2, z0_3, z0_4, z0_5⟩ := HO.out.c6 0 rfl
   go_wp2
   go_ret
   exact ⟨rfl, HO.out.below⟩
theorem valid19_t2 (id cd : Int) (nm : ByteArray) (a : Option Addr) (n cap : Nat) (rs : List Rc) (w : World) (hr : w.ownsRow 0 49 5 (.slice a n cap) n (rs.flatMap cRc)) (hn : rs.length = n) (h1 : 0 ≤ id) (h2 : id ≤ 65535) (h3 : 0 ≤ cd) (h4 : cd ≤ 2) (hv : vname nm = true) (h8 : n ≤ 8) (hrs : ∀ r ∈ rs, RcV r) :
  Calls Tryz.prog 117 #[.agg #[.int .i64 id, .bool true, .int .i64 cd, .string nm, .int .i64 2, .slice a n cap]] w fun e w' => e = .returned (.bool true) ∧ Below w.heap.size w w' := by
 have HV := Hi (fun w => vn19_r hv w)
 have HR := Hi hr
 have HN := Hi hn
 have HRS := Hi hrs
 have hb : (n : Int) ≤ 8 := by omega
 have HO := Hi (Own.nil w none0)
 clear hv hr hn hrs
 obtain ⟨x11, hx11, bx, hbx, hO⟩ := HO.out.allocE (.cells #[.int .i64 id, .bool true, .int .i64 cd, .string nm, .int .i64 2, .slice a n cap] 86)
 replace HO := Hi (show Own w none0 x11 [blkR bx (.cells #[.int .i64 id, .bool true, .int .i64 cd, .string nm, .int .i64 2, .slice a n cap] 86)] from hO)
 clear hO
 obtain ⟨z0_0, z0_1, z0_2, z0_3, z0_4, z0_5⟩ := HO.out.c6 0 rfl
 go_enter Tryz.func117, Tryz.ntmps117
 go_wp2_with fail
 refine (o_still HO.out (HV.out _)).mono ?_
 rintro e x12 ⟨rfl, hO, -⟩
 replace HO := Hi hO
 clear hO
 clear hx11 hbx z0_0 z0_1 z0_2 z0_3 z0_4 z0_5
 obtain ⟨z0_0, z0_1, z0_2, z0_3, z0_4, z0_5⟩ := HO.out.c6 0 rfl
 go_wp2
 clear z0_0 z0_1 z0_2 z0_3 z0_4 z0_5
 go_loopw [3] (fun iv wr => ∃ i : Nat, i ≤ n ∧ iv = .int .i64 i ∧ Own w none0 wr [blkR bx (.cells #[.int .i64 id, .bool true, .int .i64 cd, .string nm, .int .i64 2, .slice a n cap] 86)]) (fun iv _ => n - (intOf iv).toNat)
 case atStart => exact ⟨0, Nat.zero_le _, rfl, HO.out⟩
 case round =>
  obtain ⟨i, hi, rfl, hO⟩ := hrel
  clear HO
  have HO := Hi hO
  clear hO
  by_cases hlt : i < n
  ·
   have hd : decide ((i : Int) < (n : Int)) = true := decide_eq_true (by omega)
   have hkl : i < rs.length := by rw [HN.out]; exact hlt
   have hrw := row_stayB HR.out HO.out.below
   obtain ⟨g, rfl⟩ := row_some hrw (by omega)
   have yc : ∀ q u, q < 5 → (cRc rs[i])[q]? = some u → wr.cell? ⟨g, i * 5 + q, none⟩ = some u := fun q u hq hu => (row_cells hrw).1 _ _ (by rw [flat_getR cRc 5 (fun _ => rfl) rs i hkl q hq]; exact hu)
   have HRC := Hi (fun w => rec19_r rs[i] w (HRS.out _ (List.getElem_mem hkl)))
   generalize rs[i] = r at *
   obtain ⟨rn, rk, rt, rd, ro⟩ := r
   have y0 : wr.cell? ⟨g, i * 5, none⟩ = some (.string rn) := yc 0 _ (by decide) rfl
   have y1 : wr.cell? ⟨g, i * 5 + 1, none⟩ = some (.int .i64 rk) := yc 1 _ (by decide) rfl
   have y2 : wr.cell? ⟨g, i * 5 + 2, none⟩ = some (.int .i64 rt) := yc 2 _ (by decide) rfl
   have y3 : wr.cell? ⟨g, i * 5 + 3, none⟩ = some (.int .i64 rd) := yc 3 _ (by decide) rfl
   have y4 : wr.cell? ⟨g, i * 5 + 4, none⟩ = some (.string ro) := yc 4 _ (by decide) rfl
   clear yc hrw hkl
   replace HO := Hi (show Own w none0 wr [blkR bx (.cells #[.int .i64 id, .bool true, .int .i64 cd, .string nm, .int .i64 2, .slice (some ⟨g, 0, none⟩) n cap] 86)] from HO.out)
   obtain ⟨z0_0, z0_1, z0_2, z0_3, z0_4, z0_5⟩ := HO.out.c6 0 rfl
   go_wp2_with fail
   refine (o_still HO.out (HRC.out _)).mono ?_
   rintro e x31 ⟨rfl, hO, -⟩
   replace HO := Hi hO
   clear hO
   clear z0_0 z0_1 z0_2 z0_3 z0_4 z0_5
   clear y0 y1 y2 y3 y4
   go_wp2
   go_roundw
   case rel => exact ⟨i + 1, by omega, by go_num, HO.out⟩
   case measure => simp [intOf]; omega
  ·
   obtain rfl : i = n := by omega
   have hd : decide ((i : Int) < (i : Int)) = false := decide_eq_false (by omega)
   replace HO := Hi (show Own w none0 wr [blkR bx (.cells #[.int .i64 id, .bool true, .int .i64 cd, .string nm, .int .i64 2, .slice a i cap] 86)] from HO.out)
   obtain ⟨z0_0, z0_1, z0_2, z0_3, z0_4, z0_5⟩ := HO.out.c6 0 rfl
   go_wp2
   go_ret
   exact ⟨rfl, HO.out.below⟩
theorem valid19_f1 (id cd : Int) (nm : ByteArray) (a : Option Addr) (n cap : Nat) (rs : List Rc) (w : World) (hr : w.ownsRow 0 49 5 (.slice a n cap) n (rs.flatMap cRc)) (hn : rs.length = n) (h1 : 0 ≤ id) (h2 : id ≤ 65535) (h3 : 0 ≤ cd) (h4 : cd ≤ 2) (hv : vname nm = true) (h8 : n ≤ 8) (hrs : ∀ r ∈ rs, RcV r) (hcd : cd = 0) (hn0 : n = 0) :
  Calls Tryz.prog 117 #[.agg #[.int .i64 id, .bool false, .int .i64 cd, .string nm, .int .i64 1, .slice a n cap]] w fun e w' => e = .returned (.bool true) ∧ Below w.heap.size w w' := by
 have HV := Hi (fun w => vn19_r hv w)
 have HR := Hi hr
 have HN := Hi hn
 have HRS := Hi hrs
 have hb : (n : Int) ≤ 8 := by omega
 have HO := Hi (Own.nil w none0)
 clear hv hr hn hrs
 subst hcd hn0
 obtain ⟨x11, hx11, bx, hbx, hO⟩ := HO.out.allocE (.cells #[.int .i64 id, .bool false, .int .i64 0, .string nm, .int .i64 1, .slice a 0 cap] 86)
 replace HO := Hi (show Own w none0 x11 [blkR bx (.cells #[.int .i64 id, .bool false, .int .i64 0, .string nm, .int .i64 1, .slice a 0 cap] 86)] from hO)
 clear hO
 obtain ⟨z0_0, z0_1, z0_2, z0_3, z0_4, z0_5⟩ := HO.out.c6 0 rfl
 go_enter Tryz.func117, Tryz.ntmps117
 go_wp2_with fail
 refine (o_still HO.out (HV.out _)).mono ?_
 rintro e x12 ⟨rfl, hO, -⟩
 replace HO := Hi hO
 clear hO
 clear hx11 hbx z0_0 z0_1 z0_2 z0_3 z0_4 z0_5
 obtain ⟨z0_0, z0_1, z0_2, z0_3, z0_4, z0_5⟩ := HO.out.c6 0 rfl
 go_wp2
 clear z0_0 z0_1 z0_2 z0_3 z0_4 z0_5
 go_loopw [3] (fun iv wr => ∃ i : Nat, i ≤ 0 ∧ iv = .int .i64 i ∧ Own w none0 wr [blkR bx (.cells #[.int .i64 id, .bool false, .int .i64 0, .string nm, .int .i64 1, .slice a 0 cap] 86)]) (fun iv _ => 0 - (intOf iv).toNat)
 case atStart => exact ⟨0, Nat.zero_le _, rfl, HO.out⟩
 case round =>
  obtain ⟨i, hi, rfl, hO⟩ := hrel
  clear HO
  have HO := Hi hO
  clear hO
  obtain rfl : i = 0 := by omega
  replace HO := Hi (show Own w none0 wr [blkR bx (.cells #[.int .i64 id, .bool false, .int .i64 0, .string nm, .int .i64 1, .slice a 0 cap] 86)] from HO.out)
  obtain ⟨z0_0, z0_1, z0_2, z0_3, z0_4, z0_5⟩ := HO.out.c6 0 rfl
  go_wp2
  go_ret
  exact ⟨rfl, HO.out.below⟩
theorem valid19_f2 (id cd : Int) (nm : ByteArray) (a : Option Addr) (n cap : Nat) (rs : List Rc) (w : World) (hr : w.ownsRow 0 49 5 (.slice a n cap) n (rs.flatMap cRc)) (hn : rs.length = n) (h1 : 0 ≤ id) (h2 : id ≤ 65535) (h3 : 0 ≤ cd) (h4 : cd ≤ 2) (hv : vname nm = true) (h8 : n ≤ 8) (hrs : ∀ r ∈ rs, RcV r) (hcd : cd = 0) (hn0 : n = 0) :
  Calls Tryz.prog 117 #[.agg #[.int .i64 id, .bool false, .int .i64 cd, .string nm, .int .i64 2, .slice a n cap]] w fun e w' => e = .returned (.bool true) ∧ Below w.heap.size w w' := by
 have HV := Hi (fun w => vn19_r hv w)
 have HR := Hi hr
 have HN := Hi hn
 have HRS := Hi hrs
 have hb : (n : Int) ≤ 8 := by omega
 have HO := Hi (Own.nil w none0)
 clear hv hr hn hrs
 subst hcd hn0
 obtain ⟨x11, hx11, bx, hbx, hO⟩ := HO.out.allocE (.cells #[.int .i64 id, .bool false, .int .i64 0, .string nm, .int .i64 2, .slice a 0 cap] 86)
 replace HO := Hi (show Own w none0 x11 [blkR bx (.cells #[.int .i64 id, .bool false, .int .i64 0, .string nm, .int .i64 2, .slice a 0 cap] 86)] from hO)
 clear hO
 obtain ⟨z0_0, z0_1, z0_2, z0_3, z0_4, z0_5⟩ := HO.out.c6 0 rfl
 go_enter Tryz.func117, Tryz.ntmps117
 go_wp2_with fail
 refine (o_still HO.out (HV.out _)).mono ?_
 rintro e x12 ⟨rfl, hO, -⟩
 replace HO := Hi hO
 clear hO
 clear hx11 hbx z0_0 z0_1 z0_2 z0_3 z0_4 z0_5
 obtain ⟨z0_0, z0_1, z0_2, z0_3, z0_4, z0_5⟩ := HO.out.c6 0 rfl
 go_wp2
 clear z0_0 z0_1 z0_2 z0_3 z0_4 z0_5
 go_loopw [3] (fun iv wr => ∃ i : Nat, i ≤ 0 ∧ iv = .int .i64 i ∧ Own w none0 wr [blkR bx (.cells #[.int .i64 id, .bool false, .int .i64 0, .string nm, .int .i64 2, .slice a 0 cap] 86)]) (fun iv _ => 0 - (intOf iv).toNat)
 case atStart => exact ⟨0, Nat.zero_le _, rfl, HO.out⟩
 case round =>
  obtain ⟨i, hi, rfl, hO⟩ := hrel
  clear HO
  have HO := Hi hO
  clear hO
  obtain rfl : i = 0 := by omega
  replace HO := Hi (show Own w none0 wr [blkR bx (.cells #[.int .i64 id, .bool false, .int .i64 0, .string nm, .int .i64 2, .slice a 0 cap] 86)] from HO.out)
  obtain ⟨z0_0, z0_1, z0_2, z0_3, z0_4, z0_5⟩ := HO.out.c6 0 rfl
  go_wp2
  go_ret
  exact ⟨rfl, HO.out.below⟩
theorem valid19_r {id cd : Int} {an : Bool} {kd : Int} {a : Option Addr} {n cap : Nat} (w : World) (hr : w.ownsRow 0 49 5 (.slice a n cap) n (rs.flatMap cRc)) (hn : rs.length = n) (hd : DmV ⟨id, an, cd, nm, kd, rs⟩) :
  Calls Tryz.prog 117 #[.agg #[.int .i64 id, .bool an, .int .i64 cd, .string nm, .int .i64 kd, .slice a n cap]] w fun e w' => e = .returned (.bool true) ∧ Below w.heap.size w w' := by
 obtain ⟨⟨h1, h2⟩, ⟨h3, h4⟩, h5, h6, h7, h8, h9⟩ := hd
 simp only at h6 h7
 cases an with
 | true =>
  rcases h6 with h6 | h6
  ·
   subst h6; exact valid19_t1 id cd nm a n cap rs w hr hn h1 h2 h3 h4 h5 (by omega) h8
  ·
   subst h6; exact valid19_t2 id cd nm a n cap rs w hr hn h1 h2 h3 h4 h5 (by omega) h8
 | false =>
  obtain ⟨hc, hrn⟩ := h9 rfl
  have hn0 : n = 0 := by rw [← hn]; simp only at hrn; rw [hrn]; rfl
  rcases h6 with h6 | h6
  ·
   subst h6; exact valid19_f1 id cd nm a n cap rs w hr hn h1 h2 h3 h4 h5 (by omega) h8 hc hn0
  ·
   subst h6; exact valid19_f2 id cd nm a n cap rs w hr hn h1 h2 h3 h4 h5 (by omega) h8 hc hn0
theorem enm_len (h : vname s = true) : (encNm s).length ≤ 70 := by
 have h1 := vname_sz h
 have h2 := pcs_sum s.data.toList
 have := Lib.size_eq s
 unfold encNm
 rw [List.length_append, encLs_len, h2]
 simp; omega
theorem recs_len : ∀ (rs : List Rc), (∀ r ∈ rs, RcV r) → (rs.flatMap encRec).length ≤ rs.length * 127
 | [], _ => by simp
 | r :: rs, h => by
  have h1 := encRec_len (h r List.mem_cons_self)
  have h2 := recs_len rs fun x hx => h x (List.mem_cons_of_mem _ hx)
  rw [List.flatMap_cons, List.length_append, List.length_cons]
  omega
theorem encode19_t (id cd : Int) (nm : ByteArray) (kd : Int) (a : Option Addr) (n cap : Nat) (rs : List Rc) (w : World) (hr : w.ownsRow 0 49 5 (.slice a n cap) n (rs.flatMap cRc)) (hn : rs.length = n) (hd : DmV ⟨id, true, cd, nm, kd, rs⟩) :
  Calls Tryz.prog 62 #[.agg #[.int .i64 id, .bool true, .int .i64 cd, .string nm, .int .i64 kd, .slice a n cap]] w fun e w' => e = .returned (.tuple #[.string ⟨(encM ⟨id, true, cd, nm, kd, rs⟩).toArray⟩, .int .i64 0]) ∧ Below w.heap.size w w' := by
 have HVA := Hi (fun w' hb => valid19_r w' (row_stayB hr hb) hn hd)
 have HR := Hi hr
 have HN := Hi hn
 obtain ⟨⟨h1, h2⟩, ⟨h3, h4⟩, h5, h6, h7, h8, h9⟩ := hd
 have HRS := Hi h8
 have hk : 0 ≤ kd ∧ kd < 256 := by rcases h6 with h | h <;> simp only at h <;> omega
 simp only at h1 h2 h3 h4 h5 h7
 have hb : (n : Int) ≤ 8 := by omega
 have HP1 := Hi (fun w => put19_2 (n := id) w h1 (by omega))
 have HP2 := Hi (fun w => put19_1 (n := b01 true) w (by decide) (by decide))
 have HP3 := Hi (fun w => put19_1 (n := cd) w h3 (by omega))
 have HP4 := Hi (fun w => put19_1 (n := kd) w hk.1 hk.2)
 have HP5 := Hi (fun w => put19_1 (n := (n : Int)) w (by omega) (by omega))
 have HNM := Hi (fun w => name19_r (s := nm) w (by have := vname_sz h5; omega) rfl)
 have HE := Hi (show encM ⟨id, true, cd, nm, kd, rs⟩ = (beN 2 id ++ beN 1 (b01 true) ++ beN 1 cd ++ beN 1 kd ++ encNm nm ++ beN 1 (n : Int)) ++ rs.flatMap encRec by rw [← hn]; rfl)
 have hlm := enm_len h5
 have l1 : (beN 2 id).length = 2 := rfl
 have l2 : (beN 1 (b01 true)).length = 1 := rfl
 have l3 : (beN 1 cd).length = 1 := rfl
 have l4 : (beN 1 kd).length = 1 := rfl
 have l5 : (beN 1 (n : Int)).length = 1 := rfl
 obtain ⟨hb1, hb2⟩ := hk
 have HO := Hi (Own.nil w none0)
 clear hr hn h5 h6 h7 h8 h9 h1 h2 h3 h4 hb1 hb2
 generalize encNm nm = sn at *
 generalize beN 2 id = s1 at *
 generalize hs2 : beN 1 (b01 true) = s2 at *
 generalize beN 1 cd = s3 at *
 generalize beN 1 kd = s4 at *
 generalize beN 1 (n : Int) = s5 at *
 have HP2' := Hi (show ∀ w, Calls Tryz.prog 118 #[.int .i64 1, .int .i64 1] w fun e w' => e = .returned (.string ⟨s2.toArray⟩) ∧ Below w.heap.size w w' from HP2.out)
 clear HP2 hs2
 obtain ⟨x11, hx11, bx, hbx, hO⟩ := HO.out.allocE (.cells #[.int .i64 id, .bool true, .int .i64 cd, .string nm, .int .i64 kd, .slice a n cap] 86)
 replace HO := Hi (show Own w none0 x11 [blkR bx (.cells #[.int .i64 id, .bool true, .int .i64 cd, .string nm, .int .i64 kd, .slice a n cap] 86)] from hO)
 clear hO
 obtain ⟨z0_0, z0_1, z0_2, z0_3, z0_4, z0_5⟩ := HO.out.c6 0 rfl
 go_enter Tryz.func62, Tryz.ntmps62
 go_wp2_with fail
 refine (o_still HO.out (HVA.out _ HO.out.below)).mono ?_
 rintro e x12 ⟨rfl, hO, -⟩
 replace HO := Hi hO
 clear hO
 clear hx11 hbx z0_0 z0_1 z0_2 z0_3 z0_4 z0_5
 obtain ⟨z0_0, z0_1, z0_2, z0_3, z0_4, z0_5⟩ := HO.out.c6 0 rfl
 go_wp2
 clear z0_0 z0_1 z0_2 z0_3 z0_4 z0_5
 obtain ⟨g0_0, g0_1, g0_2, g0_3, g0_4, g0_5⟩ := HO.out.g6 0 rfl
 refine wp_region_B (by kernel_rfl) (by kernel_rfl) ?_
 iterate 2 (go_big_quiet_step (fail))
 go_big_quiet_step ((go_at_call 118; exact Calls.regrown_of (HP1.out _)))
 iterate 1 (go_big_quiet_step (fail))
 go_big_quiet_step ((go_at_call 118; exact Calls.regrown_of (HP2'.out _)))
 iterate 3 (go_big_quiet_step (fail))
 go_big_quiet_step ((go_at_call 118; exact Calls.regrown_of (HP3.out _)))
 iterate 3 (go_big_quiet_step (fail))
 go_big_quiet_step ((go_at_call 118; exact Calls.regrown_of (HP4.out _)))
 iterate 3 (go_big_quiet_step (fail))
 go_big_quiet_step ((go_at_call 119; exact Calls.regrown_of (HNM.out _)))
 iterate 4 (go_big_quiet_step (fail))
 go_big_quiet_step ((go_at_call 118; exact Calls.regrown_of (HP5.out _)))
 iterate 2 (go_big_quiet_step (fail))
 refine wpQuiet_nil ?_
 intro y1 hbw
 have hO := HO.out.stay hbw
 replace HO := Hi hO
 clear hO hbw HP1 HP2' HP3 HP4 HP5 HNM HVA g0_0 g0_1 g0_2 g0_3 g0_4 g0_5
 go_wp2
 have HH := Hi (show (s1 ++ s2 ++ s3 ++ s4 ++ sn ++ s5).length ≤ 80 by simp only [List.length_append]; omega)
 rw [app_l, app_l, app_l, app_l, app_l]
 generalize s1 ++ s2 = p1 at *
 generalize p1 ++ s3 = p2 at *
 generalize p2 ++ s4 = p3 at *
 generalize p3 ++ sn = p4 at *
 generalize p4 ++ s5 = hdr at *
 clear l1 l2 l3 l4 l5 hlm
 have HSM := Hi (show ∀ i, (hdr ++ (rs.take i).flatMap encRec).length ≤ 1200 from fun i => by
  have h1 := recs_len (rs.take i) fun r hr => HRS.out r (List.mem_of_mem_take hr)
  have h2 : (rs.take i).length ≤ 8 := by rw [List.length_take]; have := HN.out; omega
  have h3 := HH.out
  rw [List.length_append]; omega)
 go_loopw [5, 6] (fun sv iv wr => ∃ i : Nat, i ≤ n ∧ iv = .int .i64 i ∧ sv = .string ⟨(hdr ++ (rs.take i).flatMap encRec).toArray⟩ ∧ Own w none0 wr [blkR bx (.cells #[.int .i64 id, .bool true, .int .i64 cd, .string nm, .int .i64 kd, .slice a n cap] 86)]) (fun _ iv _ => n - (intOf iv).toNat)
 case atStart => exact ⟨0, Nat.zero_le _, rfl, by simp, HO.out⟩
 case round =>
  obtain ⟨i, hi, rfl, rfl, hO⟩ := hrel
  clear HO
  have HO := Hi hO
  clear hO
  by_cases hlt : i < n
  ·
   have hd : decide ((i : Int) < (n : Int)) = true := decide_eq_true (by omega)
   have hkl : i < rs.length := by rw [HN.out]; exact hlt
   have hrw := row_stayB HR.out HO.out.below
   obtain ⟨g, rfl⟩ := row_some hrw (by omega)
   have yc : ∀ q u, q < 5 → (cRc rs[i])[q]? = some u → wr.cell? ⟨g, i * 5 + q, none⟩ = some u := fun q u hq hu => (row_cells hrw).1 _ _ (by rw [flat_getR cRc 5 (fun _ => rfl) rs i hkl q hq]; exact hu)
   have HRV := Hi (HRS.out _ (List.getElem_mem hkl))
   have HT := Hi (show hdr ++ (rs.take (i + 1)).flatMap encRec = hdr ++ (rs.take i).flatMap encRec ++ encRec rs[i] by rw [List.take_succ_eq_append_getElem hkl, List.flatMap_append, List.append_assoc]; simp)
   have hsl := HSM.out i
   generalize rs[i] = r at *
   generalize hdr ++ (rs.take i).flatMap encRec = acc at *
   obtain ⟨rn, rk, rt, rd, ro⟩ := r
   obtain ⟨hv1, hv2, hv3, hv4⟩ := HRV.out
   simp only at hv1 hv2 hv3 hv4
   have y0 : wr.cell? ⟨g, i * 5, none⟩ = some (.string rn) := yc 0 _ (by decide) rfl
   have y1 : wr.cell? ⟨g, i * 5 + 1, none⟩ = some (.int .i64 rk) := yc 1 _ (by decide) rfl
   have y2 : wr.cell? ⟨g, i * 5 + 2, none⟩ = some (.int .i64 rt) := yc 2 _ (by decide) rfl
   have y3 : wr.cell? ⟨g, i * 5 + 3, none⟩ = some (.int .i64 rd) := yc 3 _ (by decide) rfl
   have y4 : wr.cell? ⟨g, i * 5 + 4, none⟩ = some (.string ro) := yc 4 _ (by decide) rfl
   have HQ1 := Hi (fun w => name19_r (s := rn) w (by have := vname_sz hv1; omega) rfl)
   have HQ2 := Hi (fun w => put19_2 (n := rt) w hv2 (by omega))
   have hnl := enm_len hv1
   have l2 : (beN 2 rt).length = 2 := rfl
   generalize hbn : encNm rn = bn at *
   generalize hbt : beN 2 rt = bt at *
   clear yc hrw hkl HRV hv1 hv2 hv3
   replace HO := Hi (show Own w none0 wr [blkR bx (.cells #[.int .i64 id, .bool true, .int .i64 cd, .string nm, .int .i64 kd, .slice (some ⟨g, 0, none⟩) n cap] 86)] from HO.out)
   have z0_5 : wr.cell? _ = some (.slice (some ⟨g, 0, none⟩) n cap) := HO.out.cell 0 rfl 5 rfl
   obtain ⟨x41, hx41, br, hbr, hO⟩ := HO.out.allocE (.cells #[.string ⟨#[]⟩, .int .i64 0, .int .i64 0, .int .i64 0, .string ⟨#[]⟩] 49)
   replace HO := Hi (show Own _ _ _ [_, blkR br (.cells #[.string ⟨#[]⟩, .int .i64 0, .int .i64 0, .int .i64 0, .string ⟨#[]⟩] 49)] from hO)
   clear hO
   obtain ⟨x47, x52, x56, x59, x61, hx47, hx52, hx56, hx59, hx61, k1_0_42, lk1_0_42, k1_1_48, lk1_1_48, k1_2_53, lk1_2_53, k1_3_57, lk1_3_57, k1_4_60, lk1_4_60, hO⟩ := HO.out.steps5 1 rfl (.string rn) (.int .i64 rk) (.int .i64 rt) (.int .i64 rd) (.string ro)
   replace HO := Hi (show Own _ _ _ [_, blkR br (.cells #[.string rn, .int .i64 rk, .int .i64 rt, .int .i64 rd, .string ro] 49)] from hO)
   clear hO
   obtain ⟨z1_0, z1_1, z1_2, z1_3, z1_4⟩ := HO.out.c5 1 rfl
   have z0_5t : x61.cell? _ = some (.slice (some ⟨g, 0, none⟩) n cap) := HO.out.cell 0 rfl 5 rfl
   rcases hv4 with ⟨rfl, ha, hto⟩ | ⟨rfl, hto, rfl⟩
   ·
    have HQ3 := Hi (fun w => put19_1 (n := 1) w (by decide) (by decide))
    have l3 : (beN 1 1).length = 1 := rfl
    generalize hbk : beN 1 1 = bk at *
    obtain ⟨a0, a1⟩ : 0 ≤ rd ∧ rd ≤ 4294967295 := by simpa [adrOk] using ha
    have HQ4 := Hi (fun w => put19_4 (n := rd) w a0 (by omega))
    have l4 : (beN 4 rd).length = 4 := rfl
    have HER := Hi (show encRec ⟨rn, 1, rt, rd, ro⟩ = bn ++ bk ++ bt ++ beN 4 rd by rw [← hbn, ← hbk, ← hbt]; rfl)
    generalize beN 4 rd = ba at *
    clear hbk hbn hbt
    go_wp2
    clear z0_5 hx41 hbr k1_0_42 lk1_0_42 hx47 k1_1_48 lk1_1_48 hx52 k1_2_53 lk1_2_53 hx56 k1_3_57 lk1_3_57 hx59 k1_4_60 lk1_4_60 hx61 z1_0 z1_1 z1_2 z1_3 z1_4 z0_5t
    clear y0 y1 y2 y3 y4
    have g1_0 := cell_regrown (show x61.cell? _ = some (.string rn) from HO.out.cell 1 rfl 0 rfl)
    have g1_1 := cell_regrown (show x61.cell? _ = some (.int .i64 1) from HO.out.cell 1 rfl 1 rfl)
    have g1_2 := cell_regrown (show x61.cell? _ = some (.int .i64 rt) from HO.out.cell 1 rfl 2 rfl)
    refine wp_region_B (by kernel_rfl) (by kernel_rfl) ?_
    iterate 3 (go_big_quiet_step (fail))
    go_big_quiet_step ((go_at_call 119; exact Calls.regrown_of (HQ1.out _)))
    iterate 3 (go_big_quiet_step (fail))
    go_big_quiet_step ((go_at_call 118; exact Calls.regrown_of (HQ3.out _)))
    iterate 3 (go_big_quiet_step (fail))
    go_big_quiet_step ((go_at_call 118; exact Calls.regrown_of (HQ2.out _)))
    iterate 2 (go_big_quiet_step (fail))
    refine wpQuiet_nil ?_
    intro x70 hbw
    have hO := HO.out.stay hbw
    replace HO := Hi (show Own _ _ _ [_, blkR br (.cells #[.string rn, .int .i64 1, .int .i64 rt, .int .i64 rd, .string ro] 49)] from hO)
    clear hO hbw HQ1 HQ2 HQ3 g1_0 g1_1 g1_2
    obtain ⟨z1_0, z1_1, z1_2, z1_3, z1_4⟩ := HO.out.c5 1 rfl
    have hc := (show ((bn ++ bk ++ bt).length ≤ 80) by simp only [List.length_append]; omega)
    go_wp2_with fail
    refine (o_still HO.out (HQ4.out _)).mono ?_
    rintro e x71 ⟨rfl, hO, -⟩
    replace HO := Hi hO
    clear hO
    clear z1_0 z1_1 z1_2 z1_3 z1_4
    go_wp2
    go_roundw
    case rel => exact ⟨i + 1, by omega, by go_num, by rw [HT.out, HER.out, app_l, app_l, app_l, app_l]; simp only [List.append_assoc], HO.out.take 1⟩
    case measure => simp [intOf]; omega
   ·
    have HQ3 := Hi (fun w => put19_1 (n := 2) w (by decide) (by decide))
    have l3 : (beN 1 2).length = 1 := rfl
    generalize hbk : beN 1 2 = bk at *
    have HQ4 := Hi (fun w => name19_r (s := ro) w (by have := vname_sz hto; omega) rfl)
    have l4 := enm_len hto
    have HER := Hi (show encRec ⟨rn, 2, rt, 0, ro⟩ = bn ++ bk ++ bt ++ encNm ro by rw [← hbn, ← hbk, ← hbt]; rfl)
    generalize encNm ro = ba at *
    clear hbk hbn hbt
    go_wp2
    clear z0_5 hx41 hbr k1_0_42 lk1_0_42 hx47 k1_1_48 lk1_1_48 hx52 k1_2_53 lk1_2_53 hx56 k1_3_57 lk1_3_57 hx59 k1_4_60 lk1_4_60 hx61 z1_0 z1_1 z1_2 z1_3 z1_4 z0_5t
    clear y0 y1 y2 y3 y4
    have g1_0 := cell_regrown (show x61.cell? _ = some (.string rn) from HO.out.cell 1 rfl 0 rfl)
    have g1_1 := cell_regrown (show x61.cell? _ = some (.int .i64 2) from HO.out.cell 1 rfl 1 rfl)
    have g1_2 := cell_regrown (show x61.cell? _ = some (.int .i64 rt) from HO.out.cell 1 rfl 2 rfl)
    refine wp_region_B (by kernel_rfl) (by kernel_rfl) ?_
    iterate 3 (go_big_quiet_step (fail))
    go_big_quiet_step ((go_at_call 119; exact Calls.regrown_of (HQ1.out _)))
    iterate 3 (go_big_quiet_step (fail))
    go_big_quiet_step ((go_at_call 118; exact Calls.regrown_of (HQ3.out _)))
    iterate 3 (go_big_quiet_step (fail))
    go_big_quiet_step ((go_at_call 118; exact Calls.regrown_of (HQ2.out _)))
    iterate 2 (go_big_quiet_step (fail))
    refine wpQuiet_nil ?_
    intro x70 hbw
    have hO := HO.out.stay hbw
    replace HO := Hi (show Own _ _ _ [_, blkR br (.cells #[.string rn, .int .i64 2, .int .i64 rt, .int .i64 0, .string ro] 49)] from hO)
    clear hO hbw HQ1 HQ2 HQ3 g1_0 g1_1 g1_2
    obtain ⟨z1_0, z1_1, z1_2, z1_3, z1_4⟩ := HO.out.c5 1 rfl
    have hc := (show ((bn ++ bk ++ bt).length ≤ 80) by simp only [List.length_append]; omega)
    go_wp2_with fail
    refine (o_still HO.out (HQ4.out _)).mono ?_
    rintro e x71 ⟨rfl, hO, -⟩
    replace HO := Hi hO
    clear hO
    clear z1_0 z1_1 z1_2 z1_3 z1_4
    go_wp2
    go_roundw
    case rel => exact ⟨i + 1, by omega, by go_num, by rw [HT.out, HER.out, app_l, app_l, app_l, app_l]; simp only [List.append_assoc], HO.out.take 1⟩
    case measure => simp [intOf]; omega
  ·
   obtain rfl : i = n := by omega
   have hd : decide ((i : Int) < (i : Int)) = false := decide_eq_false (by omega)
   have HT := Hi (show rs.take i = rs by rw [← HN.out]; exact List.take_length)
   rw [HT.out] at *
   replace HO := Hi (show Own w none0 wr [blkR bx (.cells #[.int .i64 id, .bool true, .int .i64 cd, .string nm, .int .i64 kd, .slice a i cap] 86)] from HO.out)
   obtain ⟨z0_0, z0_1, z0_2, z0_3, z0_4, z0_5⟩ := HO.out.c6 0 rfl
   go_wp2
   go_ret2
   exact ⟨by rw [HE.out]; rfl, HO.out.below⟩
theorem encode19_f (id cd : Int) (nm : ByteArray) (kd : Int) (a : Option Addr) (n cap : Nat) (rs : List Rc) (w : World) (hr : w.ownsRow 0 49 5 (.slice a n cap) n (rs.flatMap cRc)) (hn : rs.length = n) (hd : DmV ⟨id, false, cd, nm, kd, rs⟩) :
  Calls Tryz.prog 62 #[.agg #[.int .i64 id, .bool false, .int .i64 cd, .string nm, .int .i64 kd, .slice a n cap]] w fun e w' => e = .returned (.tuple #[.string ⟨(encM ⟨id, false, cd, nm, kd, rs⟩).toArray⟩, .int .i64 0]) ∧ Below w.heap.size w w' := by
 have HVA := Hi (fun w' hb => valid19_r w' (row_stayB hr hb) hn hd)
 have HR := Hi hr
 have HN := Hi hn
 obtain ⟨⟨h1, h2⟩, ⟨h3, h4⟩, h5, h6, h7, h8, h9⟩ := hd
 have HRS := Hi h8
 have hk : 0 ≤ kd ∧ kd < 256 := by rcases h6 with h | h <;> simp only at h <;> omega
 simp only at h1 h2 h3 h4 h5 h7
 have hb : (n : Int) ≤ 8 := by omega
 have HP1 := Hi (fun w => put19_2 (n := id) w h1 (by omega))
 have HP2 := Hi (fun w => put19_1 (n := b01 false) w (by decide) (by decide))
 have HP3 := Hi (fun w => put19_1 (n := cd) w h3 (by omega))
 have HP4 := Hi (fun w => put19_1 (n := kd) w hk.1 hk.2)
 have HP5 := Hi (fun w => put19_1 (n := (n : Int)) w (by omega) (by omega))
 have HNM := Hi (fun w => name19_r (s := nm) w (by have := vname_sz h5; omega) rfl)
 have HE := Hi (show encM ⟨id, false, cd, nm, kd, rs⟩ = (beN 2 id ++ beN 1 (b01 false) ++ beN 1 cd ++ beN 1 kd ++ encNm nm ++ beN 1 (n : Int)) ++ rs.flatMap encRec by rw [← hn]; rfl)
 have hlm := enm_len h5
 have l1 : (beN 2 id).length = 2 := rfl
 have l2 : (beN 1 (b01 false)).length = 1 := rfl
 have l3 : (beN 1 cd).length = 1 := rfl
 have l4 : (beN 1 kd).length = 1 := rfl
 have l5 : (beN 1 (n : Int)).length = 1 := rfl
 obtain ⟨hb1, hb2⟩ := hk
 have HO := Hi (Own.nil w none0)
 clear hr hn h5 h6 h7 h8 h9 h1 h2 h3 h4 hb1 hb2
 generalize encNm nm = sn at *
 generalize beN 2 id = s1 at *
 generalize hs2 : beN 1 (b01 false) = s2 at *
 generalize beN 1 cd = s3 at *
 generalize beN 1 kd = s4 at *
 generalize beN 1 (n : Int) = s5 at *
 have HP2' := Hi (show ∀ w, Calls Tryz.prog 118 #[.int .i64 0, .int .i64 1] w fun e w' => e = .returned (.string ⟨s2.toArray⟩) ∧ Below w.heap.size w w' from HP2.out)
 clear HP2 hs2
 obtain ⟨x11, hx11, bx, hbx, hO⟩ := HO.out.allocE (.cells #[.int .i64 id, .bool false, .int .i64 cd, .string nm, .int .i64 kd, .slice a n cap] 86)
 replace HO := Hi (show Own w none0 x11 [blkR bx (.cells #[.int .i64 id, .bool false, .int .i64 cd, .string nm, .int .i64 kd, .slice a n cap] 86)] from hO)
 clear hO
 obtain ⟨z0_0, z0_1, z0_2, z0_3, z0_4, z0_5⟩ := HO.out.c6 0 rfl
 go_enter Tryz.func62, Tryz.ntmps62
 go_wp2_with fail
 refine (o_still HO.out (HVA.out _ HO.out.below)).mono ?_
 rintro e x12 ⟨rfl, hO, -⟩
 replace HO := Hi hO
 clear hO
 clear hx11 hbx z0_0 z0_1 z0_2 z0_3 z0_4 z0_5
 obtain ⟨z0_0, z0_1, z0_2, z0_3, z0_4, z0_5⟩ := HO.out.c6 0 rfl
 go_wp2
 clear z0_0 z0_1 z0_2 z0_3 z0_4 z0_5
 obtain ⟨g0_0, g0_1, g0_2, g0_3, g0_4, g0_5⟩ := HO.out.g6 0 rfl
 refine wp_region_B (by kernel_rfl) (by kernel_rfl) ?_
 iterate 2 (go_big_quiet_step (fail))
 go_big_quiet_step ((go_at_call 118; exact Calls.regrown_of (HP1.out _)))
 iterate 1 (go_big_quiet_step (fail))
 go_big_quiet_step ((go_at_call 118; exact Calls.regrown_of (HP2'.out _)))
 iterate 3 (go_big_quiet_step (fail))
 go_big_quiet_step ((go_at_call 118; exact Calls.regrown_of (HP3.out _)))
 iterate 3 (go_big_quiet_step (fail))
 go_big_quiet_step ((go_at_call 118; exact Calls.regrown_of (HP4.out _)))
 iterate 3 (go_big_quiet_step (fail))
 go_big_quiet_step ((go_at_call 119; exact Calls.regrown_of (HNM.out _)))
 iterate 4 (go_big_quiet_step (fail))
 go_big_quiet_step ((go_at_call 118; exact Calls.regrown_of (HP5.out _)))
 iterate 2 (go_big_quiet_step (fail))
 refine wpQuiet_nil ?_
 intro y1 hbw
 have hO := HO.out.stay hbw
 replace HO := Hi hO
 clear hO hbw HP1 HP2' HP3 HP4 HP5 HNM HVA g0_0 g0_1 g0_2 g0_3 g0_4 g0_5
 go_wp2
 have HH := Hi (show (s1 ++ s2 ++ s3 ++ s4 ++ sn ++ s5).length ≤ 80 by simp only [List.length_append]; omega)
 rw [app_l, app_l, app_l, app_l, app_l]
 generalize s1 ++ s2 = p1 at *
 generalize p1 ++ s3 = p2 at *
 generalize p2 ++ s4 = p3 at *
 generalize p3 ++ sn = p4 at *
 generalize p4 ++ s5 = hdr at *
 clear l1 l2 l3 l4 l5 hlm
 have HSM := Hi (show ∀ i, (hdr ++ (rs.take i).flatMap encRec).length ≤ 1200 from fun i => by
  have h1 := recs_len (rs.take i) fun r hr => HRS.out r (List.mem_of_mem_take hr)
  have h2 : (rs.take i).length ≤ 8 := by rw [List.length_take]; have := HN.out; omega
  have h3 := HH.out
  rw [List.length_append]; omega)
 go_loopw [5, 6] (fun sv iv wr => ∃ i : Nat, i ≤ n ∧ iv = .int .i64 i ∧ sv = .string ⟨(hdr ++ (rs.take i).flatMap encRec).toArray⟩ ∧ Own w none0 wr [blkR bx (.cells #[.int .i64 id, .bool false, .int .i64 cd, .string nm, .int .i64 kd, .slice a n cap] 86)]) (fun _ iv _ => n - (intOf iv).toNat)
 case atStart => exact ⟨0, Nat.zero_le _, rfl, by simp, HO.out⟩
 case round =>
  obtain ⟨i, hi, rfl, rfl, hO⟩ := hrel
  clear HO
  have HO := Hi hO
  clear hO
  by_cases hlt : i < n
  ·
   have hd : decide ((i : Int) < (n : Int)) = true := decide_eq_true (by omega)
   have hkl : i < rs.length := by rw [HN.out]; exact hlt
   have hrw := row_stayB HR.out HO.out.below
   obtain ⟨g, rfl⟩ := row_some hrw (by omega)
   have yc : ∀ q u, q < 5 → (cRc rs[i])[q]? = some u → wr.cell? ⟨g, i * 5 + q, none⟩ = some u := fun q u hq hu => (row_cells hrw).1 _ _ (by rw [flat_getR cRc 5 (fun _ => rfl) rs i hkl q hq]; exact hu)
   have HRV := Hi (HRS.out _ (List.getElem_mem hkl))
   have HT := Hi (show hdr ++ (rs.take (i + 1)).flatMap encRec = hdr ++ (rs.take i).flatMap encRec ++ encRec rs[i] by rw [List.take_succ_eq_append_getElem hkl, List.flatMap_append, List.append_assoc]; simp)
   have hsl := HSM.out i
   generalize rs[i] = r at *
   generalize hdr ++ (rs.take i).flatMap encRec = acc at *
   obtain ⟨rn, rk, rt, rd, ro⟩ := r
   obtain ⟨hv1, hv2, hv3, hv4⟩ := HRV.out
   simp only at hv1 hv2 hv3 hv4
   have y0 : wr.cell? ⟨g, i * 5, none⟩ = some (.string rn) := yc 0 _ (by decide) rfl
   have y1 : wr.cell? ⟨g, i * 5 + 1, none⟩ = some (.int .i64 rk) := yc 1 _ (by decide) rfl
   have y2 : wr.cell? ⟨g, i * 5 + 2, none⟩ = some (.int .i64 rt) := yc 2 _ (by decide) rfl
   have y3 : wr.cell? ⟨g, i * 5 + 3, none⟩ = some (.int .i64 rd) := yc 3 _ (by decide) rfl
   have y4 : wr.cell? ⟨g, i * 5 + 4, none⟩ = some (.string ro) := yc 4 _ (by decide) rfl
   have HQ1 := Hi (fun w => name19_r (s := rn) w (by have := vname_sz hv1; omega) rfl)
   have HQ2 := Hi (fun w => put19_2 (n := rt) w hv2 (by omega))
   have hnl := enm_len hv1
   have l2 : (beN 2 rt).length = 2 := rfl
   generalize hbn : encNm rn = bn at *
   generalize hbt : beN 2 rt = bt at *
   clear yc hrw hkl HRV hv1 hv2 hv3
   replace HO := Hi (show Own w none0 wr [blkR bx (.cells #[.int .i64 id, .bool false, .int .i64 cd, .string nm, .int .i64 kd, .slice (some ⟨g, 0, none⟩) n cap] 86)] from HO.out)
   have z0_5 : wr.cell? _ = some (.slice (some ⟨g, 0, none⟩) n cap) := HO.out.cell 0 rfl 5 rfl
   obtain ⟨x41, hx41, br, hbr, hO⟩ := HO.out.allocE (.cells #[.string ⟨#[]⟩, .int .i64 0, .int .i64 0, .int .i64 0, .string ⟨#[]⟩] 49)
   replace HO := Hi (show Own _ _ _ [_, blkR br (.cells #[.string ⟨#[]⟩, .int .i64 0, .int .i64 0, .int .i64 0, .string ⟨#[]⟩] 49)] from hO)
   clear hO
   obtain ⟨x47, x52, x56, x59, x61, hx47, hx52, hx56, hx59, hx61, k1_0_42, lk1_0_42, k1_1_48, lk1_1_48, k1_2_53, lk1_2_53, k1_3_57, lk1_3_57, k1_4_60, lk1_4_60, hO⟩ := HO.out.steps5 1 rfl (.string rn) (.int .i64 rk) (.int .i64 rt) (.int .i64 rd) (.string ro)
   replace HO := Hi (show Own _ _ _ [_, blkR br (.cells #[.string rn, .int .i64 rk, .int .i64 rt, .int .i64 rd, .string ro] 49)] from hO)
   clear hO
   obtain ⟨z1_0, z1_1, z1_2, z1_3, z1_4⟩ := HO.out.c5 1 rfl
   have z0_5t : x61.cell? _ = some (.slice (some ⟨g, 0, none⟩) n cap) := HO.out.cell 0 rfl 5 rfl
   rcases hv4 with ⟨rfl, ha, hto⟩ | ⟨rfl, hto, rfl⟩
   ·
    have HQ3 := Hi (fun w => put19_1 (n := 1) w (by decide) (by decide))
    have l3 : (beN 1 1).length = 1 := rfl
    generalize hbk : beN 1 1 = bk at *
    obtain ⟨a0, a1⟩ : 0 ≤ rd ∧ rd ≤ 4294967295 := by simpa [adrOk] using ha
    have HQ4 := Hi (fun w => put19_4 (n := rd) w a0 (by omega))
    have l4 : (beN 4 rd).length = 4 := rfl
    have HER := Hi (show encRec ⟨rn, 1, rt, rd, ro⟩ = bn ++ bk ++ bt ++ beN 4 rd by rw [← hbn, ← hbk, ← hbt]; rfl)
    generalize beN 4 rd = ba at *
    clear hbk hbn hbt
    go_wp2
    clear z0_5 hx41 hbr k1_0_42 lk1_0_42 hx47 k1_1_48 lk1_1_48 hx52 k1_2_53 lk1_2_53 hx56 k1_3_57 lk1_3_57 hx59 k1_4_60 lk1_4_60 hx61 z1_0 z1_1 z1_2 z1_3 z1_4 z0_5t
    clear y0 y1 y2 y3 y4
    have g1_0 := cell_regrown (show x61.cell? _ = some (.string rn) from HO.out.cell 1 rfl 0 rfl)
    have g1_1 := cell_regrown (show x61.cell? _ = some (.int .i64 1) from HO.out.cell 1 rfl 1 rfl)
    have g1_2 := cell_regrown (show x61.cell? _ = some (.int .i64 rt) from HO.out.cell 1 rfl 2 rfl)
    refine wp_region_B (by kernel_rfl) (by kernel_rfl) ?_
    iterate 3 (go_big_quiet_step (fail))
    go_big_quiet_step ((go_at_call 119; exact Calls.regrown_of (HQ1.out _)))
    iterate 3 (go_big_quiet_step (fail))
    go_big_quiet_step ((go_at_call 118; exact Calls.regrown_of (HQ3.out _)))
    iterate 3 (go_big_quiet_step (fail))
    go_big_quiet_step ((go_at_call 118; exact Calls.regrown_of (HQ2.out _)))
    iterate 2 (go_big_quiet_step (fail))
    refine wpQuiet_nil ?_
    intro x70 hbw
    have hO := HO.out.stay hbw
    replace HO := Hi (show Own _ _ _ [_, blkR br (.cells #[.string rn, .int .i64 1, .int .i64 rt, .int .i64 rd, .string ro] 49)] from hO)
    clear hO hbw HQ1 HQ2 HQ3 g1_0 g1_1 g1_2
    obtain ⟨z1_0, z1_1, z1_2, z1_3, z1_4⟩ := HO.out.c5 1 rfl
    have hc := (show ((bn ++ bk ++ bt).length ≤ 80) by simp only [List.length_append]; omega)
    go_wp2_with fail
    refine (o_still HO.out (HQ4.out _)).mono ?_
    rintro e x71 ⟨rfl, hO, -⟩
    replace HO := Hi hO
    clear hO
    clear z1_0 z1_1 z1_2 z1_3 z1_4
    go_wp2
    go_roundw
    case rel => exact ⟨i + 1, by omega, by go_num, by rw [HT.out, HER.out, app_l, app_l, app_l, app_l]; simp only [List.append_assoc], HO.out.take 1⟩
    case measure => simp [intOf]; omega
   ·
    have HQ3 := Hi (fun w => put19_1 (n := 2) w (by decide) (by decide))
    have l3 : (beN 1 2).length = 1 := rfl
    generalize hbk : beN 1 2 = bk at *
    have HQ4 := Hi (fun w => name19_r (s := ro) w (by have := vname_sz hto; omega) rfl)
    have l4 := enm_len hto
    have HER := Hi (show encRec ⟨rn, 2, rt, 0, ro⟩ = bn ++ bk ++ bt ++ encNm ro by rw [← hbn, ← hbk, ← hbt]; rfl)
    generalize encNm ro = ba at *
    clear hbk hbn hbt
    go_wp2
    clear z0_5 hx41 hbr k1_0_42 lk1_0_42 hx47 k1_1_48 lk1_1_48 hx52 k1_2_53 lk1_2_53 hx56 k1_3_57 lk1_3_57 hx59 k1_4_60 lk1_4_60 hx61 z1_0 z1_1 z1_2 z1_3 z1_4 z0_5t
    clear y0 y1 y2 y3 y4
    have g1_0 := cell_regrown (show x61.cell? _ = some (.string rn) from HO.out.cell 1 rfl 0 rfl)
    have g1_1 := cell_regrown (show x61.cell? _ = some (.int .i64 2) from HO.out.cell 1 rfl 1 rfl)
    have g1_2 := cell_regrown (show x61.cell? _ = some (.int .i64 rt) from HO.out.cell 1 rfl 2 rfl)
    refine wp_region_B (by kernel_rfl) (by kernel_rfl) ?_
    iterate 3 (go_big_quiet_step (fail))
    go_big_quiet_step ((go_at_call 119; exact Calls.regrown_of (HQ1.out _)))
    iterate 3 (go_big_quiet_step (fail))
    go_big_quiet_step ((go_at_call 118; exact Calls.regrown_of (HQ3.out _)))
    iterate 3 (go_big_quiet_step (fail))
    go_big_quiet_step ((go_at_call 118; exact Calls.regrown_of (HQ2.out _)))
    iterate 2 (go_big_quiet_step (fail))
    refine wpQuiet_nil ?_
    intro x70 hbw
    have hO := HO.out.stay hbw
    replace HO := Hi (show Own _ _ _ [_, blkR br (.cells #[.string rn, .int .i64 2, .int .i64 rt, .int .i64 0, .string ro] 49)] from hO)
    clear hO hbw HQ1 HQ2 HQ3 g1_0 g1_1 g1_2
    obtain ⟨z1_0, z1_1, z1_2, z1_3, z1_4⟩ := HO.out.c5 1 rfl
    have hc := (show ((bn ++ bk ++ bt).length ≤ 80) by simp only [List.length_append]; omega)
    go_wp2_with fail
    refine (o_still HO.out (HQ4.out _)).mono ?_
    rintro e x71 ⟨rfl, hO, -⟩
    replace HO := Hi hO
    clear hO
    clear z1_0 z1_1 z1_2 z1_3 z1_4
    go_wp2
    go_roundw
    case rel => exact ⟨i + 1, by omega, by go_num, by rw [HT.out, HER.out, app_l, app_l, app_l, app_l]; simp only [List.append_assoc], HO.out.take 1⟩
    case measure => simp [intOf]; omega
  ·
   obtain rfl : i = n := by omega
   have hd : decide ((i : Int) < (i : Int)) = false := decide_eq_false (by omega)
   have HT := Hi (show rs.take i = rs by rw [← HN.out]; exact List.take_length)
   rw [HT.out] at *
   replace HO := Hi (show Own w none0 wr [blkR bx (.cells #[.int .i64 id, .bool false, .int .i64 cd, .string nm, .int .i64 kd, .slice a i cap] 86)] from HO.out)
   obtain ⟨z0_0, z0_1, z0_2, z0_3, z0_4, z0_5⟩ := HO.out.c6 0 rfl
   go_wp2
   go_ret2
   exact ⟨by rw [HE.out]; rfl, HO.out.below⟩
theorem encode19_r {id cd : Int} {an : Bool} {kd : Int} {a : Option Addr} {n cap : Nat} (w : World) (hr : w.ownsRow 0 49 5 (.slice a n cap) n (rs.flatMap cRc)) (hn : rs.length = n) (hd : DmV ⟨id, an, cd, nm, kd, rs⟩) :
  Calls Tryz.prog 62 #[.agg #[.int .i64 id, .bool an, .int .i64 cd, .string nm, .int .i64 kd, .slice a n cap]] w fun e w' => e = .returned (.tuple #[.string ⟨(encM ⟨id, an, cd, nm, kd, rs⟩).toArray⟩, .int .i64 0]) ∧ Below w.heap.size w w' := by
 cases an with
 | true => exact encode19_t id cd nm kd a n cap rs w hr hn hd
 | false => exact encode19_f id cd nm kd a n cap rs w hr hn hd
end Go.Proofs.YtbolfkojebbejaaGreatDoor
