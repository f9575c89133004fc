/- The reference of chapter 19: Decode at the encoding of a query. Printed by wip/tools/gen21q.py. -/
import Derived.Test.YtbolfkojebbejaaGreatDoorEn
import Derived.Test.YtbolfkojebbejaaGreatDoorDv
set_option linter.unusedVariables false
set_option maxRecDepth 100000
set_option maxHeartbeats 32000000
namespace Go.Proofs.YtbolfkojebbejaaGreatDoor
open Go.RowKit Go.Sort
attribute [local go_sem] Oper.semAt_some

theorem beD_snoc (l : List UInt8) (b : UInt8) : beD (l ++ [b]) = 256 * beD l + (b.toNat : Int) := by
 unfold beD
 rw [List.foldl_append]
 show _ * 256 + _ = _
 omega
theorem beD_bdn : ∀ (n : Nat) (l : List UInt8), l.length = n → 0 ≤ beD l ∧ beD l < 256 ^ n
 | 0, l, h => by rw [List.eq_nil_of_length_eq_zero h]; decide
 | n + 1, l, h => by
  have hne : l ≠ [] := fun e => by rw [e] at h; cases h
  have h2 := beD_bdn n l.dropLast (by simp [h])
  have hb := (l.getLast hne).toNat_lt
  rw [← List.dropLast_concat_getLast hne, beD_snoc, Int.pow_succ]
  omega
theorem beD_bd (l : List UInt8) : 0 ≤ beD l ∧ beD l < 256 ^ l.length := beD_bdn _ l rfl
theorem get01_r {s : ByteArray} {p k : Nat} {l : List UInt8} (w : World) (hk : 1 ≤ k ∧ k ≤ 4) (hp : p + k ≤ s.size) (hs : s.size ≤ 999990) {r : Int} (hr : beD ((s.data.toList.drop p).take k) = r) : Calls Tryz.prog 137 #[.string s, .int .i64 p, .int .i64 k] w fun e w' => e = .returned (.tuple #[.int .i64 r, .int .i64 0]) ∧ w = w' := by
 have HR := Hi hr
 have HLL := Hi (show s.data.toList.length = s.size from (Lib.size_eq s).symm)
 obtain ⟨k1, k4⟩ := hk
 have b1 : (1 : Int) ≤ (k : Int) := by omega
 have b2 : (k : Int) ≤ 4 := by omega
 have b3 : (p : Int) + (k : Int) ≤ (s.size : Int) := by omega
 have b4 : (s.size : Int) ≤ 999990 := by omega
 have b5 : (0 : Int) ≤ (p : Int) := by omega
 have d1 : decide (s.size < p) = false := by simp; omega
 have d1i : decide ((s.size : Int) < (p : Int)) = false := by simp; omega
 have d2 : decide ((s.size : Int) - (p : Int) < (k : Int)) = false := by simp; omega
 have d3 : decide ((k : Int) < 1) = false := by simp; omega
 have d4 : decide ((4 : Int) < (k : Int)) = false := by simp; omega
 have d5 : decide ((p : Int) < 0) = false := by simp
 clear hr
 go_enter Tryz.func137, Tryz.ntmps137
 go_wp2
 go_loopw [8, 9] (fun nv iv wr => ∃ i : Nat, i ≤ k ∧ iv = .int .i64 ((p + i : Nat) : Int) ∧ nv = .int .i64 (beD ((s.data.toList.drop p).take i)) ∧ w = wr) (fun _ iv _ => p + k - (intOf iv).toNat)
 case atStart => exact ⟨0, Nat.zero_le _, rfl, rfl, rfl⟩
 case round =>
  obtain ⟨i, hi, rfl, rfl, rfl⟩ := hrel
  by_cases hlt : i < k
  ·
   have hd : decide (((p + i : Nat) : Int) < (p : Int) + (k : Int)) = true := decide_eq_true (by omega)
   have hpi : p + i < s.size := by omega
   have H2 := Hi (show beD ((s.data.toList.drop p).take (i + 1)) = 256 * beD ((s.data.toList.drop p).take i) + (s[p + i].toNat : Int) by
    have hl : i < (s.data.toList.drop p).length := by rw [List.length_drop, HLL.out]; omega
    rw [List.take_succ_eq_append_getElem hl, beD_snoc]
    congr 3
    rw [List.getElem_drop]
    rfl)
   have hbd := beD_bd ((s.data.toList.drop p).take i)
   have hpw : (256 : Int) ^ ((s.data.toList.drop p).take i).length ≤ 16777216 := by
    have h1 : ((s.data.toList.drop p).take i).length ≤ 3 := by rw [List.length_take]; omega
    generalize ((s.data.toList.drop p).take i).length = q at h1
    have : q = 0 ∨ q = 1 ∨ q = 2 ∨ q = 3 := by omega
    rcases this with h | h | h | h <;> subst h <;> decide
   have hby := (s[p + i]).toNat_lt
   generalize beD ((s.data.toList.drop p).take i) = bd at *
   obtain ⟨hb1, hb2⟩ := hbd
   have hb3 : bd ≤ 16777216 := by omega
   clear hb2 hpw
   go_wp2
   go_roundw
   case rel => exact ⟨i + 1, by omega, by go_num, by rw [H2.out], trivial⟩
   case measure => simp [intOf]; omega
  ·
   obtain rfl : i = k := by omega
   have hd : decide (((p + i : Nat) : Int) < (p : Int) + (i : Int)) = false := decide_eq_false (by omega)
   go_wp2
   go_ret2
   exact ⟨by rw [HR.out]; rfl, rfl⟩
abbrev resR9 (b : Nat) (s : ByteArray) (p : Int) : Res := blkR b (.cells #[.string s, .int .i64 p, .bool false] 176)
def mn9 (x y : Int) : Int := if y < x then y else x
theorem mn9_l {x y : Int} (h : x ≤ y) : mn9 x y = x := by unfold mn9; rw [if_neg (by omega)]
theorem run_mn9 (x y : Int) (w : World) : (Builtin.min_ #[3, 3] 3 #[.int .i64 x, .int .i64 y]).run Tryz.prog w = .ok (.int .i64 (mn9 x y)) w := by
 have e : mn9 x y = min x y := by unfold mn9; split <;> omega
 have e2 : mn9 x y = if y < x then y else x := rfl
 rw [e2]
 simp [go_sem]
 rw [← e2, e]
section
attribute [local go_sem ↓] run_mn9
theorem num19 {w0 w : World} {D : Nat → Prop} {L : List Res} {b : Nat} {s : ByteArray} (k p : Nat) (n : Int) (hk : 1 ≤ k ∧ k ≤ 4) (hle : p + k ≤ s.size) (hs : s.size ≤ 999990) (hr : beD ((s.data.toList.drop p).take k) = n) (h : Own w0 D w L) (i : Nat) (hi : L[i]? = some (resR9 b s p)) :
  Calls Tryz.prog 90 #[.pointer (some ⟨b, 0, none⟩), .int .i64 k] w (OPost w0 D (L.set i (resR9 b s ((p + k : Nat) : Int))) (.int .i64 n) w) := by
 refine o_one h hi fun D HO0 => ?_
 clear h hi
 have HO := Hi HO0
 have HG := Hi (fun w => get01_r (w := w) (l := []) hk hle hs hr)
 have b3 : (p : Int) + (k : Int) ≤ (s.size : Int) := by omega
 have b4 : (s.size : Int) ≤ 999990 := by omega
 have b5 : (k : Int) ≤ 4 := by omega
 have hm : mn9 ((p : Int) + (k : Int)) (s.size : Int) = (p : Int) + (k : Int) := by rw [mn9_l b3]
 clear HO0 hr hle hs
 replace HO := Hi (show Own w D w [blkR b (.cells #[.string s, .int .i64 p, .bool false] 176)] from HO.out)
 go_enter Tryz.func90, Tryz.ntmps90
 go_wp2
 have g0_0 := cell_regrown (show w.cell? _ = some (.string s) from HO.out.cell 0 rfl 0 rfl)
 have g0_1 := cell_regrown (show w.cell? _ = some (.int .i64 p) from HO.out.cell 0 rfl 1 rfl)
 refine wp_region_B (by kernel_rfl) (by kernel_rfl) ?_
 iterate 9 (go_big_quiet_step (fail))
 go_big_quiet_step ((go_at_call 137; exact Calls.regrown_of (ghO_quiet (HG.out _))))
 iterate 5 (go_big_quiet_step (fail))
 refine wpQuiet_nil ?_
 intro y1 hbw
 have hO := HO.out.stay hbw
 replace HO := Hi hO
 clear hO hbw g0_0 g0_1
 obtain ⟨z0_0, z0_1, -⟩ := HO.out.c3 0 rfl
 have ⟨z0_2, y0_2⟩ : y1.cell? _ = some (.bool false) ∧ _ := HO.out.cf 0 rfl 2 rfl
 obtain ⟨x11, hx11, hO⟩ := HO.out.setE 0 rfl 2 (.bool false)
 replace HO := Hi hO
 clear hO
 obtain ⟨z0_0t, z0_1t, z0_2t⟩ := HO.out.c3 0 rfl
 go_wp2
 clear z0_0 z0_1 z0_2 y0_2 hx11 z0_0t z0_1t z0_2t
 clear HG
 have g0_0 := cell_regrown (show x11.cell? _ = some (.string s) from HO.out.cell 0 rfl 0 rfl)
 have g0_1 := cell_regrown (show x11.cell? _ = some (.int .i64 p) from HO.out.cell 0 rfl 1 rfl)
 refine wp_region_R 15 (by kernel_rfl) (by kernel_rfl) ?_
 simp only [List.take, List.drop]
 iterate 15 (first | (refine wpR_want (by kernel_rfl) rfl rfl ?_; intro K hK; go_big_quiet_op; go_big_quiet_on) | (refine wpR_is (by kernel_rfl) rfl _ (fun w _ => rfl) ?_; simp only [Act.put, l_T, l_S, l_Z]))
 refine wpR_nil (by kernel_rfl) (by simp) ?_
 rintro y2 hbw
 simp only [exAll]
 simp only [List.drop]
 have hO := HO.out.stay hbw
 replace HO := Hi hO
 clear hO hbw g0_0 g0_1 
 obtain ⟨z0_0, z0_1, -⟩ := HO.out.c3 0 rfl
 have z0_2 : y2.cell? _ = some (.bool false) := HO.out.cell 0 rfl 2 rfl
 have y0_1 := HO.out.frz 0 rfl 1
 obtain ⟨x12, hx12, hO⟩ := HO.out.setE 0 rfl 1 (.int .i64 ((p : Int) + (k : Int)))
 replace HO := Hi (show Own _ _ _ [blkR b (.cells #[.string s, .int .i64 ((p : Int) + (k : Int)), .bool false] 176)] from hO)
 clear hO
 go_wp2
 go_ret
 have hO := HO.out
 rw [show (p : Int) + (k : Int) = ((p + k : Nat) : Int) by omega] at hO
 exact ⟨rfl, hO, HO.out.size⟩
end
theorem num19_1 {w0 w : World} {D : Nat → Prop} {L : List Res} {b : Nat} {s : ByteArray} (p : Nat) (n : Int) (h0 : 0 ≤ n) (h1 : n < 256) (ha : At s p (beN 1 n)) (hs : s.size ≤ 999990) (h : Own w0 D w L) (i : Nat) (hi : L[i]? = some (resR9 b s p)) :
  Calls Tryz.prog 90 #[.pointer (some ⟨b, 0, none⟩), .int .i64 1] w (OPost w0 D (L.set i (resR9 b s ((p + 1 : Nat) : Int))) (.int .i64 n) w) := by
 have hle := ha.le (by simp [beN])
 have htk := ha.take
 rw [beN_len] at hle htk
 exact num19 1 p n (by decide) hle hs (by rw [htk, beD_1 n h0 h1]) h i hi
theorem num19_2 {w0 w : World} {D : Nat → Prop} {L : List Res} {b : Nat} {s : ByteArray} (p : Nat) (n : Int) (h0 : 0 ≤ n) (h1 : n < 65536) (ha : At s p (beN 2 n)) (hs : s.size ≤ 999990) (h : Own w0 D w L) (i : Nat) (hi : L[i]? = some (resR9 b s p)) :
  Calls Tryz.prog 90 #[.pointer (some ⟨b, 0, none⟩), .int .i64 2] w (OPost w0 D (L.set i (resR9 b s ((p + 2 : Nat) : Int))) (.int .i64 n) w) := by
 have hle := ha.le (by simp [beN])
 have htk := ha.take
 rw [beN_len] at hle htk
 exact num19 2 p n (by decide) hle hs (by rw [htk, beD_2 n h0 h1]) h i hi
theorem posOf9_is {w0 w : World} {D : Nat → Prop} {L : List Res} {b : Nat} {s : ByteArray} {p : Nat} (h : Own w0 D w L) (i : Nat) (hi : L[i]? = some (resR9 b s p)) : posOf w b = p := by
 unfold posOf; rw [h.cell i hi 1 rfl]; simp
theorem rname19 {w0 w : World} {D : Nat → Prop} {L : List Res} {b : Nat} {s : ByteArray} (p : Nat) (nm : ByteArray) (hv : vname nm = true) (ha : At s p (encNm nm)) (hs : s.size ≤ 999990) (h : Own w0 D w L) (i : Nat) (hi : L[i]? = some (resR9 b s p)) :
  Calls Tryz.prog 91 #[.pointer (some ⟨b, 0, none⟩)] w (OPost w0 D (L.set i (resR9 b s ((p + (encNm nm).length : Nat) : Int))) (.string nm) w) := by
 refine o_one h hi fun D HO0 => ?_
 clear h hi
 have HO := Hi HO0
 have h60 := vname_sz hv
 have hls : (pcs nm.data.toList).all lbOk = true := by unfold vname at hv; simp at hv; simpa using hv.2
 have HLB := Hi (show ∀ x ∈ pcs nm.data.toList, lbOk x = true from List.all_eq_true.1 hls)
 have HJN := Hi (jn_pcs nm.data.toList)
 have HNL := Hi (show nm.data.toList.length ≤ 60 by rw [← Lib.size_eq]; exact h60)
 obtain ⟨E, hE⟩ : ∃ y, p + (encNm nm).length = y := ⟨_, rfl⟩
 have HE := Hi hE
 have hle := ha.le (by unfold encNm; simp)
 have HLE := Hi (show E ≤ s.size by omega)
 unfold encNm at ha hE
 obtain ⟨ls, hlsd⟩ : ∃ y, pcs nm.data.toList = y := ⟨_, rfl⟩
 rw [hlsd] at ha hE HLB HJN
 have HS := Hi hs
 have HA := Hi ha
 have hsz : (s.size : Int) ≤ 999990 := by omega
 clear HO0 ha hls hlsd hv hle hs h60
 go_enter Tryz.func91, Tryz.ntmps91
 go_wp2
 go_loopw [3] (fun sv wr => ∃ (pre suf : List (List UInt8)) (q : Nat), ls = pre ++ suf ∧ sv = .string ⟨(jn pre).toArray⟩ ∧ At s q (encLs suf ++ [0]) ∧ q + (encLs suf ++ [0]).length = E ∧ Own w D wr [resR9 b s (q : Int)]) (fun _ wr => s.size + 5 - posOf wr b)
 case atStart => exact ⟨[], ls, p, rfl, rfl, HA.out, hE, HO.out⟩
 case round =>
  obtain ⟨pre, suf, q, hsp, rfl, hat, hqe, hO⟩ := hrel
  clear HO
  have HO := Hi hO
  clear hO
  have HPQ := Hi (posOf9_is HO.out 0 rfl)
  rw [encLs_split] at hat hqe
  obtain ⟨ha1, ha2⟩ := hat.step
  rw [beN_len] at ha2
  rw [List.length_append, beN_len] at hqe
  have hlen : (⟨(jn pre).toArray⟩ : ByteArray).size = (jn pre).length := mk_size _
  cases suf with
  | nil =>
   rw [List.append_nil] at hsp
   subst hsp
   rw [HJN.out] at hlen ⊢
   have hnm : (⟨nm.data.toList.toArray⟩ : ByteArray) = nm := by rw [Array.toArray_toList]
   rw [hnm] at hlen ⊢
   have hl60 : nm.size ≤ 60 := by rw [hlen]; exact HNL.out
   have hEq : q + 1 = E := by simpa [hdTail] using hqe
   have HA1 := Hi ha1
   have hd60 : decide ((nm.size : Int) ≤ 60) = true := decide_eq_true (by omega)
   clear hat ha1 ha2 hqe hnm hlen HA
   go_wp2_with fail
   refine (num19_1 q 0 (by decide) (by decide) HA1.out HS.out HO.out 0 rfl).mono ?_
   rintro e x2 ⟨rfl, hO, -⟩
   have HO2 := Hi (show Own w D x2 [resR9 b s ((q + 1 : Nat) : Int)] from hO)
   clear hO
   have HO := Hi HO2.out
   clear HO2
   replace HO := Hi (show Own w D x2 [blkR b (.cells #[.string s, .int .i64 (((q + 1 : Nat) : Int)), .bool false] 176)] from HO.out)
   go_wp2
   have g0_0 := cell_regrown (show x2.cell? _ = some (.string s) from HO.out.cell 0 rfl 0 rfl)
   have g0_1 := cell_regrown (show x2.cell? _ = some (.int .i64 (((q + 1 : Nat) : Int))) from HO.out.cell 0 rfl 1 rfl)
   have g0_2 := cell_regrown (show x2.cell? _ = some (.bool false) from HO.out.cell 0 rfl 2 rfl)
   refine wp_region_B (by kernel_rfl) (by kernel_rfl) ?_
   iterate 22 (go_big_quiet_step (fail))
   refine wpQuiet_nil ?_
   intro y1 hbw
   have hO := HO.out.stay hbw
   replace HO := Hi hO
   clear hO hbw g0_0 g0_1 g0_2
   obtain ⟨z0_0, z0_1, -⟩ := HO.out.c3 0 rfl
   have ⟨z0_2, y0_2⟩ : y1.cell? _ = some (.bool false) ∧ _ := HO.out.cf 0 rfl 2 rfl
   obtain ⟨x11, hx11, hO⟩ := HO.out.setE 0 rfl 2 (.bool false)
   replace HO := Hi hO
   clear hO
   obtain ⟨z0_0t, z0_1t, z0_2t⟩ := HO.out.c3 0 rfl
   go_wp2
   go_ret
   rw [hEq] at HO
   exact ⟨rfl, by rw [HE.out]; exact HO.out, HO.out.size⟩
  | cons x r =>
   have hxm : x ∈ ls := by rw [hsp]; simp
   obtain ⟨hx1, hx2⟩ := lbOk_b (HLB.out x hxm)
   have HSP := Hi hsp
   have hjl := jn_le x r pre
   rw [← hsp, HJN.out] at hjl
   have hjl : (jn pre).length + x.length ≤ 60 := Nat.le_trans hjl HNL.out
   have HPP := Hi (fun (h : pre ≠ []) => jn_pos pre h (fun y hy h => by have := lbOk_b (HLB.out y (by rw [hsp]; exact List.mem_append_left _ hy)); rw [h] at this; simp at this))
   have HA1 := Hi ha1
   have ha2 : At s (q + 1) (x ++ (encLs r ++ [0])) := ha2
   have hqe : q + (1 + (x ++ (encLs r ++ [0])).length) = E := hqe
   obtain ⟨ha3, ha4⟩ := ha2.step
   have htk := ha3.take
   have hle := ha3.le (by intro h; rw [h] at hx1; simp at hx1)
   rw [List.length_append] at hqe
   rw [show hdLen (x :: r) = x.length from rfl] at HA1
   obtain ⟨m, hm⟩ : ∃ y, x.length = y := ⟨_, rfl⟩
   rw [hm] at hx1 hx2 hjl ha4 hqe htk hle HA1
   have HEX := Hi (show s.extract (q + 1) (q + 1 + m) = ⟨x.toArray⟩ by rw [ext_list, htk])
   have HXS := Hi hm
   have HA4 := Hi ha4
   have HQE := Hi (show q + 1 + m + (encLs r ++ [0]).length = E by omega)
   have hpl := HLE.out
   have d0 : (((m : Nat) : Int) == 0) = false := by simp; omega
   have d1 : decide ((s.size : Int) - ((q : Int) + 1) < (m : Int)) = false := by simp; omega
   have d2 : decide (((jn pre).length : Int) ≤ 60) = true := decide_eq_true (by omega)
   have d3 : decide (((⟨(jn pre).toArray⟩ : ByteArray).size : Int) ≤ 60) = true := decide_eq_true (by omega)
   have c1 : (0 : Int) ≤ (q : Int) + 1 := by omega
   have c2 : (q : Int) + 1 ≤ (q : Int) + 1 + (m : Int) := by omega
   have c4 : (q : Int) + 1 + (m : Int) ≤ (s.size : Int) := by omega
   clear hat ha1 ha2 ha3 ha4 htk hqe hxm hsp hm HA hE
   go_wp2_with fail
   refine (num19_1 q (m : Int) (by omega) (by omega) HA1.out HS.out HO.out 0 rfl).mono ?_
   rintro e x2 ⟨rfl, hO, -⟩
   have HO2 := Hi (show Own w D x2 [blkR b (.cells #[.string s, .int .i64 ((q : Int) + 1), .bool false] 176)] by have h := hO; rw [show ((q + 1 : Nat) : Int) = (q : Int) + 1 by omega] at h; exact h)
   clear hO HO HA1
   have HO := Hi HO2.out
   clear HO2
   replace HO := Hi (show Own w D x2 [blkR b (.cells #[.string s, .int .i64 ((q : Int) + 1), .bool false] 176)] from HO.out)
   go_wp2
   have g0_0 := cell_regrown (show x2.cell? _ = some (.string s) from HO.out.cell 0 rfl 0 rfl)
   have g0_1 := cell_regrown (show x2.cell? _ = some (.int .i64 ((q : Int) + 1)) from HO.out.cell 0 rfl 1 rfl)
   have g0_2 := cell_regrown (show x2.cell? _ = some (.bool false) from HO.out.cell 0 rfl 2 rfl)
   refine wp_region_B (by kernel_rfl) (by kernel_rfl) ?_
   iterate 22 (go_big_quiet_step (fail))
   refine wpQuiet_nil ?_
   intro y1 hbw
   have hO := HO.out.stay hbw
   replace HO := Hi hO
   clear hO hbw g0_0 g0_1 g0_2
   clear d0 d1 d2
   cases pre with
   | nil =>
    have e0 : (⟨(jn []).toArray⟩ : ByteArray) = ⟨#[]⟩ := rfl
    rw [e0]
    go_wp2
    have g0_0 := cell_regrown (show y1.cell? _ = some (.string s) from HO.out.cell 0 rfl 0 rfl)
    have g0_1 := cell_regrown (show y1.cell? _ = some (.int .i64 ((q : Int) + 1)) from HO.out.cell 0 rfl 1 rfl)
    refine wp_region_R 18 (by kernel_rfl) (by kernel_rfl) ?_
    simp only [List.take, List.drop]
    iterate 18 (first | (refine wpR_want (by kernel_rfl) rfl rfl ?_; intro K hK; go_big_quiet_op; go_big_quiet_on) | (refine wpR_is (by kernel_rfl) rfl _ (fun w _ => rfl) ?_; simp only [Act.put, l_T, l_S, l_Z]))
    refine wpR_nil (by kernel_rfl) (by simp) ?_
    rintro y2 hbw
    simp only [exAll]
    simp only [List.drop]
    have hO := HO.out.stay hbw
    replace HO := Hi hO
    clear hO hbw g0_0 g0_1 
    rw [HEX.out, app_l]
    obtain ⟨z0_0, z0_1, -⟩ := HO.out.c3 0 rfl
    have z0_2 : y2.cell? _ = some (.bool false) := HO.out.cell 0 rfl 2 rfl
    have y0_1 := HO.out.frz 0 rfl 1
    obtain ⟨x11, hx11, hO⟩ := HO.out.setE 0 rfl 1 (.int .i64 ((q : Int) + 1 + (m : Int)))
    replace HO := Hi (show Own _ _ _ [blkR b (.cells #[.string s, .int .i64 ((q : Int) + 1 + (m : Int)), .bool false] 176)] from hO)
    clear hO
    have HPQ2 := Hi (posOf9_is (p := q + 1 + m) (by have h := HO.out; rw [show (q : Int) + 1 + (m : Int) = ((q + 1 + m : Nat) : Int) by omega] at h; exact h) 0 rfl)
    go_wp2
    go_roundw
    case rel => exact ⟨[] ++ [x], r, q + 1 + m, by rw [HSP.out]; simp, by congr 2, HA4.out, HQE.out, by have h := HO.out; rw [show (q : Int) + 1 + (m : Int) = ((q + 1 + m : Nat) : Int) by omega] at h; exact h⟩
    case measure => rw [HPQ.out, HPQ2.out]; omega
   | cons y ys =>
    have HPL := Hi (HPP.out (by simp))
    have HSN := Hi (jn_snoc x (y :: ys) (by simp))
    obtain ⟨js, hjs⟩ : ∃ j, jn (y :: ys) = j := ⟨_, rfl⟩
    rw [hjs] at HPL HSN hjl ⊢
    have hie : js.isEmpty = false := by
     cases js with
     | nil => have h := HPL.out; exact absurd h (by simp)
     | cons z zs => rfl
    have hjl2 : js.length ≤ 60 := by omega
    clear hjs HPP
    go_wp2
    rw [show (⟨#[46]⟩ : ByteArray) = ⟨([46] : List UInt8).toArray⟩ from rfl, app_l]
    obtain ⟨j2, hj2⟩ : ∃ j, js ++ [46] = j := ⟨_, rfl⟩
    have HJ2 := Hi (show jn ((y :: ys) ++ [x]) = j2 ++ x by rw [HSN.out, ← hj2]; simp)
    have hjl3 : j2.length ≤ 61 := by rw [← hj2, List.length_append]; simp; omega
    rw [hj2]
    clear hj2 hie HSN hjl2
    have g0_0 := cell_regrown (show y1.cell? _ = some (.string s) from HO.out.cell 0 rfl 0 rfl)
    have g0_1 := cell_regrown (show y1.cell? _ = some (.int .i64 ((q : Int) + 1)) from HO.out.cell 0 rfl 1 rfl)
    refine wp_region_R 18 (by kernel_rfl) (by kernel_rfl) ?_
    simp only [List.take, List.drop]
    iterate 18 (first | (refine wpR_want (by kernel_rfl) rfl rfl ?_; intro K hK; go_big_quiet_op; go_big_quiet_on) | (refine wpR_is (by kernel_rfl) rfl _ (fun w _ => rfl) ?_; simp only [Act.put, l_T, l_S, l_Z]))
    refine wpR_nil (by kernel_rfl) (by simp) ?_
    rintro y2 hbw
    simp only [exAll]
    simp only [List.drop]
    have hO := HO.out.stay hbw
    replace HO := Hi (show Own _ _ _ [blkR b (.cells #[.string s, .int .i64 ((q : Int) + 1), .bool false] 176)] from hO)
    clear hO hbw g0_0 g0_1 
    rw [HEX.out, app_l]
    obtain ⟨z0_0, z0_1, -⟩ := HO.out.c3 0 rfl
    have z0_2 : y2.cell? _ = some (.bool false) := HO.out.cell 0 rfl 2 rfl
    have y0_1 := HO.out.frz 0 rfl 1
    obtain ⟨x11, hx11, hO⟩ := HO.out.setE 0 rfl 1 (.int .i64 ((q : Int) + 1 + (m : Int)))
    replace HO := Hi (show Own _ _ _ [blkR b (.cells #[.string s, .int .i64 ((q : Int) + 1 + (m : Int)), .bool false] 176)] from hO)
    clear hO
    have HPQ2 := Hi (posOf9_is (p := q + 1 + m) (by have h := HO.out; rw [show (q : Int) + 1 + (m : Int) = ((q + 1 + m : Nat) : Int) by omega] at h; exact h) 0 rfl)
    go_wp2
    go_roundw
    case rel => exact ⟨(y :: ys) ++ [x], r, q + 1 + m, by rw [HSP.out]; simp, by congr 2; rw [HJ2.out], HA4.out, HQE.out, by have h := HO.out; rw [show (q : Int) + 1 + (m : Int) = ((q + 1 + m : Nat) : Int) by omega] at h; exact h⟩
    case measure => rw [HPQ.out, HPQ2.out]; omega
theorem results_cell_tmp {fn : Func} {p q : Tmp} {ty : TypeId} (h : fn.results = #[.cell p ty, .tmp q]) (tmps : Array Value) (P : Program) (w : World) (g : Nat) (t : TypeId) (cs : Array Value) (fr : Nat × Nat) (d : TypeDesc)
  (hp : tmps.getD p undef = .pointer (some ⟨g, 0, none⟩)) (hg : w.heap[g]? = some (.cells cs t fr))
  (hu : P.underlying ty = some d) (hd : (match d with | .struct _ | .array _ _ => true | _ => false) = true) (hi : (P.info? ty).map (·.size) = some cs.size)
  {u : Value} (hq : tmps.getD q undef = u) :
  (results fn tmps).run P w = .ok (.tuple #[.agg cs, u]) w := by
 have hp' : tmps[p]?.getD undef = .pointer (some ⟨g, 0, none⟩) := by simpa using hp
 have hq' : tmps[q]?.getD undef = u := by simpa using hq
 simp only [results, h]
 simp [Result.andThen, hp', hq', asAddr, run_loadVar_row w g t ty cs fr d hg hu (by revert hd; cases d <;> exact id) hi]
theorem run_bdRd (s : ByteArray) (w : World) : (Instr.build 176 #[(0, .string s)]).run Tryz.prog w = .ok (.agg #[.string s, .int .i64 0, .bool false]) w := by kernel_rfl
theorem run_bdMs (n : Int) (w : World) : (Instr.build 86 #[(0, .int .i64 n)]).run Tryz.prog w = .ok (.agg #[.int .i64 n, .bool false, .int .i64 0, .string ⟨#[]⟩, .int .i64 0, .slice none 0 0]) w := by kernel_rfl
def qryD (id : Int) (nm : ByteArray) : Dm := ⟨id, false, 0, nm, 1, []⟩
theorem qryD_ok {id : Int} {nm : ByteArray} (h0 : 0 ≤ id) (h1 : id ≤ 65535) (hn : vname nm = true) : DmV (qryD id nm) := ⟨⟨h0, h1⟩, ⟨by show (0 : Int) ≤ 0; decide, by show (0 : Int) ≤ 2; decide⟩, hn, .inl rfl, by show 0 ≤ 8; decide, fun r hr => (by cases hr), fun _ => ⟨rfl, rfl⟩⟩
theorem decode19_q {id : Int} {nm s : ByteArray} (w : World) (h0 : 0 ≤ id) (h1 : id ≤ 65535) (hn : vname nm = true) (hs : s = ⟨(encM (qryD id nm)).toArray⟩) :
  Calls Tryz.prog 40 #[.string s] w fun e w' => e = .returned (.tuple #[.agg #[.int .i64 id, .bool false, .int .i64 0, .string nm, .int .i64 1, .slice none 0 0], .int .i64 0]) ∧ Below w.heap.size w w' := by
 have hd := qryD_ok h0 h1 hn
 have HEN := Hi (fun w => encode19_r (a := none) (cap := 0) (n := 0) w (((Own.nil w none0).rowNew 49 5).row 0 rfl) rfl hd)
 have hsz : s.size ≤ 999990 := by
  rw [hs, mk_size]
  have := encM_len hd
  omega
 have hat : At s 0 (beN 2 id ++ (beN 1 0 ++ (beN 1 0 ++ (beN 1 1 ++ (encNm nm ++ beN 1 0))))) := ⟨[], by rw [hs]; simp [encM, encHd, qryD, b01]⟩
 obtain ⟨a1, hat⟩ := hat.step
 obtain ⟨a2, hat⟩ := hat.step
 obtain ⟨a3, hat⟩ := hat.step
 obtain ⟨a4, hat⟩ := hat.step
 obtain ⟨a5, a6⟩ := hat.step
 simp only [beN_len] at a2 a3 a4 a5 a6
 have HAT := Hi (And.intro a1 (And.intro a2 (And.intro a3 (And.intro a4 (And.intro a5 a6)))))
 have HS := Hi hsz
 have HNV := Hi hn
 have HID := Hi (And.intro h0 h1)
 obtain ⟨q, hq⟩ : ∃ q, (encNm nm).length = q := ⟨_, rfl⟩
 have HQ := Hi hq
 have HEQ := Hi (show (⟨(encM ⟨id, false, 0, nm, 1, []⟩).toArray⟩ : ByteArray) = s from hs.symm)
 rw [hq] at HAT
 have rb1 := run_bdRd s
 have rb2 := run_bdMs id
 have HO := Hi (Own.nil w none0)
 clear hd hat a1 a2 a3 a4 a5 a6 hn hsz hs hq
 obtain ⟨x11, hx11, b2, hb2, hO⟩ := HO.out.allocE (.cells #[.int .i64 0, .bool false, .int .i64 0, .string ⟨#[]⟩, .int .i64 0, .slice none 0 0] 86)
 replace HO := Hi (show Own w none0 x11 [blkR b2 (.cells #[.int .i64 0, .bool false, .int .i64 0, .string ⟨#[]⟩, .int .i64 0, .slice none 0 0] 86)] from hO)
 clear hO
 obtain ⟨x12, hx12, br, hbr, hO⟩ := HO.out.allocE (.cells #[.string s, .int .i64 0, .bool false] 176)
 replace HO := Hi (show Own _ _ _ [_, blkR br (.cells #[.string s, .int .i64 0, .bool false] 176)] from hO)
 clear hO
 go_enter Tryz.func40, Tryz.ntmps40
 replace HO := Hi (show Own w none0 x12 [blkR b2 (.cells #[.int .i64 0, .bool false, .int .i64 0, .string ⟨#[]⟩, .int .i64 0, .slice none 0 0] 86), resR9 br s ((0 : Nat) : Int)] from HO.out)
 go_wp2_with fail
 refine (num19_2 (0) (id) (HID.out.1) (by have := HID.out.2; omega) HAT.out.1 HS.out HO.out 1 rfl).mono ?_
 rintro e x13 ⟨rfl, hO, -⟩
 replace HO := Hi (show Own _ _ _ [_, resR9 br s ((2 : Nat) : Int)] from hO)
 clear hO
 clear hx11 hb2 hx12 hbr
 obtain ⟨x14, hx14, b5, hb5, hO⟩ := HO.out.allocE (.cells #[.int .i64 0, .bool false, .int .i64 0, .string ⟨#[]⟩, .int .i64 0, .slice none 0 0] 86)
 replace HO := Hi (show Own _ _ _ [_, _, blkR b5 (.cells #[.int .i64 0, .bool false, .int .i64 0, .string ⟨#[]⟩, .int .i64 0, .slice none 0 0] 86)] from hO)
 clear hO
 obtain ⟨x21, x27, x32, x36, x39, x41, hx21, hx27, hx32, hx36, hx39, hx41, k2_0_15, lk2_0_15, k2_1_22, lk2_1_22, k2_2_28, lk2_2_28, k2_3_33, lk2_3_33, k2_4_37, lk2_4_37, k2_5_40, lk2_5_40, hO⟩ := HO.out.steps6 2 rfl (.int .i64 id) (.bool false) (.int .i64 0) (.string ⟨#[]⟩) (.int .i64 0) (.slice none 0 0)
 replace HO := Hi (show Own _ _ _ [_, _, blkR b5 (.cells #[.int .i64 id, .bool false, .int .i64 0, .string ⟨#[]⟩, .int .i64 0, .slice none 0 0] 86)] from hO)
 clear hO
 go_wp2_with fail
 refine (num19_1 (2) (0) (by decide) (by decide) HAT.out.2.1 HS.out HO.out 1 rfl).mono ?_
 rintro e x42 ⟨rfl, hO, -⟩
 replace HO := Hi (show Own _ _ _ [_, resR9 br s ((3 : Nat) : Int), _] from hO)
 clear hO
 clear hx14 hb5 k2_0_15 lk2_0_15 hx21 k2_1_22 lk2_1_22 hx27 k2_2_28 lk2_2_28 hx32 k2_3_33 lk2_3_33 hx36 k2_4_37 lk2_4_37 hx39 k2_5_40 lk2_5_40 hx41
 have ⟨z2_1, y2_1⟩ : x42.cell? _ = some (.bool false) ∧ _ := HO.out.cf 2 rfl 1 rfl
 obtain ⟨x43, hx43, hO⟩ := HO.out.setE 2 rfl 1 (.bool false)
 replace HO := Hi hO
 clear hO
 go_wp2_with fail
 refine (num19_1 (3) (0) (by decide) (by decide) HAT.out.2.2.1 HS.out HO.out 1 rfl).mono ?_
 rintro e x44 ⟨rfl, hO, -⟩
 replace HO := Hi (show Own _ _ _ [_, resR9 br s ((4 : Nat) : Int), _] from hO)
 clear hO
 clear z2_1 y2_1 hx43
 have ⟨z2_2, y2_2⟩ : x44.cell? _ = some (.int .i64 0) ∧ _ := HO.out.cf 2 rfl 2 rfl
 obtain ⟨x45, hx45, hO⟩ := HO.out.setE 2 rfl 2 (.int .i64 0)
 replace HO := Hi hO
 clear hO
 go_wp2_with fail
 refine (num19_1 (4) (1) (by decide) (by decide) HAT.out.2.2.2.1 HS.out HO.out 1 rfl).mono ?_
 rintro e x46 ⟨rfl, hO, -⟩
 replace HO := Hi (show Own _ _ _ [_, resR9 br s ((5 : Nat) : Int), _] from hO)
 clear hO
 clear z2_2 y2_2 hx45
 have ⟨z2_4, y2_4⟩ : x46.cell? _ = some (.int .i64 0) ∧ _ := HO.out.cf 2 rfl 4 rfl
 obtain ⟨x47, hx47, hO⟩ := HO.out.setE 2 rfl 4 (.int .i64 1)
 replace HO := Hi (show Own _ _ _ [_, _, blkR b5 (.cells #[.int .i64 id, .bool false, .int .i64 0, .string ⟨#[]⟩, .int .i64 1, .slice none 0 0] 86)] from hO)
 clear hO
 go_wp2_with fail
 refine (rname19 5 nm HNV.out HAT.out.2.2.2.2.1 HS.out HO.out 1 rfl).mono ?_
 rintro e x48 ⟨rfl, hO, -⟩
 rw [HQ.out] at hO
 replace HO := Hi (show Own _ _ _ [_, resR9 br s ((5 + q : Nat) : Int), _] from hO)
 clear hO
 clear z2_4 y2_4 hx47
 have ⟨z2_3, y2_3⟩ : x48.cell? _ = some (.string ⟨#[]⟩) ∧ _ := HO.out.cf 2 rfl 3 rfl
 obtain ⟨x49, hx49, hO⟩ := HO.out.setE 2 rfl 3 (.string nm)
 replace HO := Hi (show Own _ _ _ [_, _, blkR b5 (.cells #[.int .i64 id, .bool false, .int .i64 0, .string nm, .int .i64 1, .slice none 0 0] 86)] from hO)
 clear hO
 go_wp2_with fail
 refine (num19_1 (5 + q) (0) (by decide) (by decide) HAT.out.2.2.2.2.2 HS.out HO.out 1 rfl).mono ?_
 rintro e x50 ⟨rfl, hO, -⟩
 replace HO := Hi (show Own _ _ _ [_, resR9 br s ((5 + q + 1 : Nat) : Int), _] from hO)
 clear hO
 clear z2_3 y2_3 hx49
 obtain ⟨z2_0, z2_1, z2_2, z2_3, z2_4, z2_5⟩ := HO.out.c6 2 rfl
 go_wp2
 clear z2_0 z2_1 z2_2 z2_3 z2_4 z2_5
 go_loopw [8] (fun iv wr => iv = .int .i64 0 ∧ Own w none0 wr [blkR b2 (.cells #[.int .i64 0, .bool false, .int .i64 0, .string ⟨#[]⟩, .int .i64 0, .slice none 0 0] 86), resR9 br s ((5 + q + 1 : Nat) : Int), blkR b5 (.cells #[.int .i64 id, .bool false, .int .i64 0, .string nm, .int .i64 1, .slice none 0 0] 86)]) (fun _ _ => 0)
 case atStart => exact ⟨rfl, HO.out⟩
 case round =>
  obtain ⟨rfl, hO⟩ := hrel
  clear HO
  have HO := Hi hO
  clear hO
  replace HO := Hi (show Own w none0 wr [blkR b2 (.cells #[.int .i64 0, .bool false, .int .i64 0, .string ⟨#[]⟩, .int .i64 0, .slice none 0 0] 86), resR9 br s ((5 + q + 1 : Nat) : Int), blkR b5 (.cells #[.int .i64 id, .bool false, .int .i64 0, .string nm, .int .i64 1, .slice none 0 0] 86)] from HO.out)
  replace HO := Hi (show Own w none0 wr [blkR b2 (.cells #[.int .i64 0, .bool false, .int .i64 0, .string ⟨#[]⟩, .int .i64 0, .slice none 0 0] 86), blkR br (.cells #[.string s, .int .i64 ((5 + q + 1 : Nat) : Int), .bool false] 176), blkR b5 (.cells #[.int .i64 id, .bool false, .int .i64 0, .string nm, .int .i64 1, .slice none 0 0] 86)] from HO.out)
  obtain ⟨z2_0, z2_1, z2_2, z2_3, z2_4, z2_5⟩ := HO.out.c6 2 rfl
  obtain ⟨z1_0, z1_1, z1_2⟩ := HO.out.c3 1 rfl
  go_wp2_with fail
  refine (o_still HO.out (HEN.out _)).mono ?_
  rintro e x201 ⟨rfl, hO, -⟩
  replace HO := Hi hO
  clear hO
  clear z2_0 z2_1 z2_2 z2_3 z2_4 z2_5 z1_0 z1_1 z1_2
  rw [HEQ.out]
  have hss : (s.toList != s.toList) = false := by simp
  obtain ⟨z2_0, z2_1, z2_2, z2_3, z2_4, z2_5⟩ := HO.out.c6 2 rfl
  obtain ⟨z1_0, z1_1, z1_2⟩ := HO.out.c3 1 rfl
  obtain ⟨x208, x214, x219, x223, x226, x228, hx208, hx214, hx219, hx223, hx226, hx228, k0_0_202, lk0_0_202, k0_1_209, lk0_1_209, k0_2_215, lk0_2_215, k0_3_220, lk0_3_220, k0_4_224, lk0_4_224, k0_5_227, lk0_5_227, hO⟩ := HO.out.steps6 0 rfl (.int .i64 id) (.bool false) (.int .i64 0) (.string nm) (.int .i64 1) (.slice none 0 0)
  replace HO := Hi (show Own _ _ _ [blkR b2 (.cells #[.int .i64 id, .bool false, .int .i64 0, .string nm, .int .i64 1, .slice none 0 0] 86), _, _] from hO)
  clear hO
  go_wp2
  refine bodyPost_ret (results_cell_tmp rfl _ _ _ b2 86 _ _ _ rfl (HO.out.blk 0 rfl) Tryz.underlying86 rfl infoDs rfl) rfl ?_
  exact ⟨rfl, HO.out.below⟩
end Go.Proofs.YtbolfkojebbejaaGreatDoor
