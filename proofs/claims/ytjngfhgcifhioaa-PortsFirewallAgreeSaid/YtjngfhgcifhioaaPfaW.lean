/- The walk of PortsFirewallAgree. Printed by wip/tools/gen23z.py. -/
import Derived.Test.YtjngfhgcifhioaaPfaP
import Derived.Test.YtjngfhgcifhioaaOpnU
namespace Go.Proofs.Ytjngfhgcifhioaa
open Go.RowKit Go.Sort
set_option linter.unusedVariables false
set_option maxRecDepth 100000

def mnG (x y : Int) : Int := min x y
theorem run_mnG (x y : Int) (w : World) : (Builtin.min_ #[3, 3] 3 #[.int .i64 x, .int .i64 y]).run Try.prog w = .ok (.int .i64 (mnG x y)) w := by
  have e : mnG x y = if y < x then y else x := by unfold mnG; split <;> omega
  rw [e]
  simp [go_sem]
def faPt (sd q : Int) : Nat → Int
  | 0 => 49152
  | k + 1 => if (k : Int) ≤ q then exP sd k else faPt sd q k
theorem faPt_bd (sd q : Int) : ∀ k, 49152 ≤ faPt sd q k ∧ faPt sd q k ≤ 49215
  | 0 => by simp [faPt]
  | k + 1 => by
    have := faPt_bd sd q k
    have := exP_bd sd k
    simp only [faPt]; split <;> omega
theorem validB_ok {n : Int} (h : 1 ≤ n ∧ n ≤ 65536) : validB n = true := by
  simp only [validB, decide_eq_true_eq]; omega
section
variable {w0 w : World} {D : Nat → Prop} {L : List Res} {f : Nat} {st st' : FSt}
theorem in_g {T N now : Int} {x : Fl} {b : Bool} (h : Own w0 D w L) (i : Nat) (hi : L[i]? = some (resF f st)) (hF : passF st now x true = (b, st')) (hW : FW T N st) (hl : st.m.length < 32) (hT : T ≤ 1000000000) (hN : N ≤ 1000000000) (hnow : timeB now) :
    Calls Try.prog 11 #[.pointer (some ⟨f, 0, none⟩), .int .i64 now, flV x] w (OPost w0 D (L.set i (resF f st')) (.bool b) w) := by
  refine (in_o h i hi (hW.fi hT hN) hW.nz (by omega) hnow).mono ?_
  rintro e w' ⟨⟨b2, st2⟩, v, ⟨hP, rfl⟩, rfl, hO, hs⟩
  obtain ⟨h1, h2⟩ := passR_f hP hl
  rw [hF] at h1 h2
  simp only at h1 h2
  subst h1 h2
  exact ⟨rfl, hO, hs⟩
theorem out_g {T N now : Int} {x : Fl} {b : Bool} (h : Own w0 D w L) (i : Nat) (hi : L[i]? = some (resF f st)) (hF : passF st now x false = (b, st')) (hW : FW T N st) (hl : st.m.length < 32) (hT : T ≤ 1000000000) (hN : N ≤ 1000000000) (hnow : timeB now) :
    Calls Try.prog 10 #[.pointer (some ⟨f, 0, none⟩), .int .i64 now, flV x] w (OPost w0 D (L.set i (resF f st')) (.bool b) w) := by
  refine (out_o h i hi (hW.fi hT hN) hW.nz (by omega) hnow).mono ?_
  rintro e w' ⟨⟨b2, st2⟩, v, ⟨hP, rfl⟩, rfl, hO, hs⟩
  obtain ⟨h1, h2⟩ := passR_f hP hl
  rw [hF] at h1 h2
  simp only at h1 h2
  subst h1 h2
  exact ⟨rfl, hO, hs⟩
end
section
attribute [local go_sem ↓] run_mnG
set_option maxRecDepth 100000 in
set_option maxHeartbeats 16000000 in
theorem agree_walk (sd : Int) (n : Nat) (g : Nat → Int × Int) (v : Value) (x : Int × Int) (wh : Int) (w : World) (hsd : -9223372036854775808 ≤ sd ∧ sd ≤ 9223372036854775807) (hR : RdP w v n g) (hx : u16B x.1 ∧ u16B x.2) (hwh : 0 ≤ wh ∧ wh ≤ 255) :
    Calls Try.prog 3 #[.int .i64 sd, v, .agg #[.int .u16 x.1, .int .u16 x.2], .int .u8 wh] w fun e w' => e = .returned (.bool true) ∧ Below w.heap.size w w' := by
  obtain ⟨a, cap, rfl, hcap, hlen, hok, hp⟩ := hR
  have HP := Lib.hid hp
  have HOK := Lib.hid hok
  obtain ⟨xa, xb⟩ := x
  obtain ⟨⟨hx0, hx1⟩, ⟨hx2, hx3⟩⟩ := hx
  obtain ⟨hw0, hw1⟩ := hwh
  obtain ⟨s0, s1⟩ := hsd
  simp only at hx0 hx1 hx2 hx3
  obtain ⟨th, hth⟩ : ∃ th : Nat → Int, th = fun i => 1 + (g i).1 := ⟨_, rfl⟩
  obtain ⟨fa, hfa⟩ : ∃ fa : Nat → Int, fa = fun i => 1 + (g i).2 % 65535 := ⟨_, rfl⟩
  have HTH := Lib.hid hth
  have HFA := Lib.hid hfa
  have HTB := Lib.hid (show ∀ i, i < n → (1 ≤ th i ∧ th i ≤ 65536) ∧ (1 ≤ fa i ∧ fa i ≤ 65535) from fun i hi => by
    obtain ⟨⟨a1, a2⟩, ⟨b1, b2⟩⟩ := hok i hi
    rw [hth, hfa]; simp only; omega)
  clear hp hok hth hfa
  have hO := (Own.nil w none0).rowNew 74 7
  have HO := Lib.hid (show Own w none0 w [rowRl (.slice none 0 0) []] from hO)
  clear hO
  obtain ⟨x1, hx1⟩ : ∃ y, w.alloc (.cells #[.int .u16 xa, .int .u16 xb] 24) = y := ⟨_, rfl⟩
  obtain ⟨bx, hbx⟩ : ∃ y, w.heap.size = y := ⟨_, rfl⟩
  have hO := HO.out.alloc (.cells #[.int .u16 xa, .int .u16 xb] 24)
  rw [hx1, hbx] at hO
  replace HO := Lib.hid (show Own w none0 x1 [rowRl (.slice none 0 0) [], blkR bx (.cells #[.int .u16 xa, .int .u16 xb] 24)] from hO)
  clear hO
  go_enter Try.func3, Try.ntmps3
  go_wp2_with fail
  refine (examples_o HO.out).mono ?_
  rintro e x2 ⟨rfl, hO, -⟩
  replace HO := Lib.hid (show Own w none0 x2 [rowRl (.slice none 0 0) [], blkR bx (.cells #[.int .u16 xa, .int .u16 xb] 24)] from hO)
  clear hO
  clear hx1 hbx
  go_wp2_with fail
  refine (new_o sd HO.out).mono ?_
  rintro e x3 ⟨p, rfl, hO, -⟩
  replace HO := Lib.hid (show Own w none0 x3 [rowRl (.slice none 0 0) [], blkR bx (.cells #[.int .u16 xa, .int .u16 xb] 24), resP p ⟨sd, 0, [], []⟩] from hO)
  clear hO
  go_wp2_with fail
  refine (new_ok HO.out 0 rfl (by decide) (by kernel_rfl)).mono ?_
  rintro e x4 ⟨f, rfl, hO, -⟩
  replace HO := Lib.hid (show Own w none0 x4 [rowRl (.slice none 0 0) [], blkR bx (.cells #[.int .u16 xa, .int .u16 xb] 24), resP p ⟨sd, 0, [], []⟩, resF f ⟨[], [], 0⟩] from hO)
  clear hO
  go_wp2
  replace HO := Lib.hid (show Own w none0 x4 [rowRl (.slice none 0 0) [], blkR bx (.cells #[.int .u16 xa, .int .u16 xb] 24), resP p (faP sd th fa 0), resF f (faF sd th fa 0)] from HO.out)
  go_loopw [13, 14] (fun pt i wr => ∃ k : Nat, k ≤ min n 20 ∧ pt = .int .i64 (faPt sd (wh % 20) k) ∧ i = .int .i64 k ∧ Own w none0 wr [rowRl (.slice none 0 0) [], blkR bx (.cells #[.int .u16 xa, .int .u16 xb] 24), resP p (faP sd th fa k), resF f (faF sd th fa k)]) (fun _ i _ => 20 - (intOf i).toNat)
  case atStart => exact ⟨0, Nat.zero_le _, rfl, rfl, HO.out⟩
  case round =>
    obtain ⟨k, hk, rfl, rfl, hO⟩ := hrel
    replace HO := Lib.hid hO
    clear hO
    have HFW := Lib.hid (faF_fw (sd := sd) (th := th) (fa := fa) (show k ≤ 20 by omega))
    have HPB := faPt_bd sd (wh % 20) k
    by_cases hlt : k < n ∧ k < 20
    · obtain ⟨hk1, hk2⟩ := hlt
      obtain ⟨b, o, rfl, hcc⟩ := HP.out (by omega)
      have hcc := hcc k hk1
      obtain ⟨⟨a0, a1⟩, ⟨b0, b1⟩⟩ := HOK.out k hk1
      obtain ⟨⟨t0, t1⟩, ⟨f0, f1⟩⟩ := HTB.out k hk1
      have HA := Lib.hid (fa_any (sd := sd) (th := th) (fa := fa) (show k < 64 by omega))
      have HC := Lib.hid (fa_conn (sd := sd) (th := th) (fa := fa) (show k < 64 by omega) ⟨t0, t1⟩ ⟨f0, f1⟩)
      have HU := Lib.hid (fa_out (sd := sd) (th := th) (fa := fa) (show k < 64 by omega) ⟨t0, t1⟩ ⟨f0, f1⟩)
      have e1 : th k = 1 + (g k).1 := by rw [HTH.out]
      have e2 : fa k = 1 + (g k).2 % 65535 := by rw [HFA.out]
      have HPT := Lib.hid (show faPt sd (wh % 20) (k + 1) = if (k : Int) ≤ wh % 20 then exP sd k else faPt sd (wh % 20) k from rfl)
      have hxp := exP_bd sd k
      generalize hgk : g k = gk at *
      obtain ⟨ga, gb⟩ := gk
      simp only at a0 a1 b0 b1 e1 e2
      rw [e1, e2] at HC HU
      have HY := Lib.hid (show w.cell? ⟨b, o + k * 2, none⟩ = some (.int .u16 ga) ∧ w.cell? ⟨b, o + k * 2 + 1, none⟩ = some (.int .u16 gb) from ⟨hcc 0 (by decide), hcc 1 (by decide)⟩)
      clear hcc hgk e1 e2 t0 t1 f0 f1
      have HA2 := Lib.hid (show anyR (faP sd th fa k) 6 k = (exP sd k, 0, ⟨sd, ((k + 1 : Nat) : Int), exB sd 6 (k + 1), faJ sd th fa k⟩) from HA.out)
      generalize exP sd k = xp at HA2 HC HU HPT hxp
      clear HA
      go_wp2_with fail
      refine (any_o HO.out 2 rfl HA2.out (by show (exB sd 6 k).length ≤ 1000000; rw [exB_len]; omega) (by show (faJ sd th fa k).length ≤ 1000000; rw [faJ_len]; omega) (show (0 : Int) ≤ k by omega) (show (k : Int) ≤ 1000000 by omega)).mono ?_
      rintro e x101 ⟨rfl, hO, -⟩
      replace HO := Lib.hid (show Own w none0 x101 [rowRl (.slice none 0 0) [], blkR bx (.cells #[.int .u16 xa, .int .u16 xb] 24), resP p ⟨sd, ((k + 1 : Nat) : Int), exB sd 6 (k + 1), faJ sd th fa k⟩, resF f (faF sd th fa k)] from hO)
      clear hO
      have y0 : x101.cell? ⟨b, o + k * 2, none⟩ = some (.int .u16 ga) := keep HO.out.below HY.out.1
      have y1 : x101.cell? ⟨b, o + k * 2 + 1, none⟩ = some (.int .u16 gb) := keep HO.out.below HY.out.2
      go_wp2_with fail
      refine (conn_o HO.out 2 rfl HC.out.1 HC.out.2 (by show (faJ sd th fa k).length ≤ 1000000; rw [faJ_len]; omega)).mono ?_
      rintro e x102 ⟨rfl, hO, -⟩
      replace HO := Lib.hid (show Own w none0 x102 [rowRl (.slice none 0 0) [], blkR bx (.cells #[.int .u16 xa, .int .u16 xb] 24), resP p (faP sd th fa (k + 1)), resF f (faF sd th fa k)] from hO)
      clear hO
      clear y0 y1
      go_wp2_with fail
      refine (out_g (T := 0) (N := 20) (x := faX xp (1 + ga) (1 + gb % 65535)) HO.out 3 rfl HU.out HFW.out.1 HFW.out.2 (by decide) (by decide) (by unfold timeB; omega)).mono ?_
      rintro e x103 ⟨rfl, hO, -⟩
      replace HO := Lib.hid (show Own w none0 x103 [rowRl (.slice none 0 0) [], blkR bx (.cells #[.int .u16 xa, .int .u16 xb] 24), resP p (faP sd th fa (k + 1)), resF f (faF sd th fa (k + 1))] from hO)
      clear hO
      by_cases hle : (k : Int) ≤ wh % 20
      · have hd : decide ((k : Int) ≤ wh % 20) = true := decide_eq_true hle
        rw [if_pos hle] at HPT
        clear hle
        go_wp2
        go_roundw
        case rel => exact ⟨k + 1, by omega, by rw [HPT.out], by go_num, HO.out⟩
        case measure => simp [intOf]; omega
      · have hd : decide ((k : Int) ≤ wh % 20) = false := by simpa using hle
        rw [if_neg hle] at HPT
        clear hle
        go_wp2
        go_roundw
        case rel => exact ⟨k + 1, by omega, by rw [HPT.out], by go_num, HO.out⟩
        case measure => simp [intOf]; omega
    · have hke : k = min n 20 := by omega
      have HK20 := Lib.hid (show k ≤ 20 by omega)
      generalize faPt sd (wh % 20) k = pt at *
      by_cases h1 : k < n
      · have h2 : ¬ (k : Int) < 20 := by omega
        clear hlt hke
        by_cases hsel : 0 < n ∧ 128 ≤ wh
        · obtain ⟨hs1, hs2⟩ := hsel
          have d1 : decide ((0 : Int) < n) = true := decide_eq_true (by omega)
          have d2 : decide (128 ≤ wh) = true := decide_eq_true hs2
          obtain ⟨m, hm⟩ : ∃ m : Nat, ((m : Nat) : Int) = mnG n 20 := ⟨(mnG n 20).toNat, by unfold mnG; omega⟩
          have hm1 : 1 ≤ m ∧ m ≤ n ∧ m ≤ 20 := by unfold mnG at hm; omega
          have e3 : mnG n 20 = m := hm.symm
          have d3 : ((m : Int) == 0) = false := by simp; omega
          obtain ⟨j, hj⟩ : ∃ j : Nat, ((j : Nat) : Int) = wh % m := ⟨(wh % m).toNat, by have := Int.emod_nonneg wh (show (m : Int) ≠ 0 by omega); omega⟩
          have hjm : (j : Int) < m := by rw [hj]; exact Int.emod_lt_of_pos _ (by omega)
          have e4 : wh % (m : Int) = j := hj.symm
          have e5 : wh.tmod (m : Int) = j := by rw [Int.tmod_eq_emod_of_nonneg (by omega)]; exact e4
          obtain ⟨bb, o, rfl, hcc⟩ := HP.out (by omega)
          have hcc := hcc j (by omega)
          obtain ⟨⟨a0, a1⟩, ⟨b0, b1⟩⟩ := HOK.out j (by omega)
          generalize g j = gk at *
          obtain ⟨ga, gb⟩ := gk
          simp only at a0 a1 b0 b1
          have y0 : wr.cell? ⟨bb, o + j * 2, none⟩ = some (.int .u16 ga) := keep HO.out.below (hcc 0 (by decide))
          have y1 : wr.cell? ⟨bb, o + j * 2 + 1, none⟩ = some (.int .u16 gb) := keep HO.out.below (hcc 1 (by decide))
          clear hcc hm hj
          have z1_0 : wr.cell? ⟨bx, 0, none⟩ = some (.int .u16 xa) := HO.out.cell 1 rfl 0 rfl
          have z1_1 : wr.cell? ⟨bx, 1, none⟩ = some (.int .u16 xb) := HO.out.cell 1 rfl 1 rfl
          obtain ⟨b, n2, he1, he2⟩ := fa_end (sd := sd) (th := th) (fa := fa) HK20.out (po := pt) (t := (1 + ga)) (f := (1 + gb % 65535)) (by omega) (by omega) (by omega)
          have HE1 := Lib.hid (show passF (faF sd th fa k) 1 (faX pt (1 + ga) (1 + gb % 65535)) true = (b, (passF (faF sd th fa k) 1 (faX pt (1 + ga) (1 + gb % 65535)) true).2) by rw [← he1])
          have HE2 := Lib.hid he2
          clear he1 he2
          have HVB := Lib.hid (validB_ok (n := (1 + ga)) (by omega))
          obtain ⟨st2, hst2⟩ : ∃ st2, (passF (faF sd th fa k) 1 (faX pt (1 + ga) (1 + gb % 65535)) true).2 = st2 := ⟨_, rfl⟩
          rw [hst2] at HE1
          clear hst2
          go_wp2_with fail
          refine (in_g (T := 0) (N := 20) (x := faX pt (1 + ga) (1 + gb % 65535)) HO.out 3 rfl HE1.out HFW.out.1 HFW.out.2 (by decide) (by decide) (by unfold timeB; omega)).mono ?_
          rintro e x301 ⟨rfl, hO, -⟩
          replace HO := Lib.hid (show Own w none0 x301 [rowRl (.slice none 0 0) [], blkR bx (.cells #[.int .u16 xa, .int .u16 xb] 24), resP p (faP sd th fa k), resF f st2] from hO)
          clear hO
          clear z1_0 z1_1
          go_wp2_with fail
          refine (look_o HO.out 2 rfl HE2.out (by show (faJ sd th fa k).length ≤ 1000000; rw [faJ_len]; have := HK20.out; omega)).mono ?_
          rintro e x302 ⟨rfl, hO, -⟩
          replace HO := Lib.hid (show Own w none0 x302 [rowRl (.slice none 0 0) [], blkR bx (.cells #[.int .u16 xa, .int .u16 xb] 24), resP p (faP sd th fa k), resF f st2] from hO)
          clear hO
          go_wp2_with fail
          refine (o_still HO.out (valid_r HVB.out _)).mono ?_
          rintro e x303 ⟨rfl, hO, -⟩
          replace HO := Lib.hid (show Own w none0 x303 [rowRl (.slice none 0 0) [], blkR bx (.cells #[.int .u16 xa, .int .u16 xb] 24), resP p (faP sd th fa k), resF f st2] from hO)
          clear hO
          go_wp2
          go_ret
          exact ⟨by simp, HO.out.below⟩
        · by_cases hs1 : 0 < n
          · have d1 : decide ((0 : Int) < n) = true := decide_eq_true (by omega)
            have d2 : decide (128 ≤ wh) = false := by simp; omega
            clear hsel
            skip
            have z1_0 : wr.cell? ⟨bx, 0, none⟩ = some (.int .u16 xa) := HO.out.cell 1 rfl 0 rfl
            have z1_1 : wr.cell? ⟨bx, 1, none⟩ = some (.int .u16 xb) := HO.out.cell 1 rfl 1 rfl
            obtain ⟨b, n2, he1, he2⟩ := fa_end (sd := sd) (th := th) (fa := fa) HK20.out (po := pt) (t := (1 + xa)) (f := (1 + xb % 65535)) (by omega) (by omega) (by omega)
            have HE1 := Lib.hid (show passF (faF sd th fa k) 1 (faX pt (1 + xa) (1 + xb % 65535)) true = (b, (passF (faF sd th fa k) 1 (faX pt (1 + xa) (1 + xb % 65535)) true).2) by rw [← he1])
            have HE2 := Lib.hid he2
            clear he1 he2
            have HVB := Lib.hid (validB_ok (n := (1 + xa)) (by omega))
            obtain ⟨st2, hst2⟩ : ∃ st2, (passF (faF sd th fa k) 1 (faX pt (1 + xa) (1 + xb % 65535)) true).2 = st2 := ⟨_, rfl⟩
            rw [hst2] at HE1
            clear hst2
            go_wp2_with fail
            refine (in_g (T := 0) (N := 20) (x := faX pt (1 + xa) (1 + xb % 65535)) HO.out 3 rfl HE1.out HFW.out.1 HFW.out.2 (by decide) (by decide) (by unfold timeB; omega)).mono ?_
            rintro e x301 ⟨rfl, hO, -⟩
            replace HO := Lib.hid (show Own w none0 x301 [rowRl (.slice none 0 0) [], blkR bx (.cells #[.int .u16 xa, .int .u16 xb] 24), resP p (faP sd th fa k), resF f st2] from hO)
            clear hO
            clear z1_0 z1_1
            go_wp2_with fail
            refine (look_o HO.out 2 rfl HE2.out (by show (faJ sd th fa k).length ≤ 1000000; rw [faJ_len]; have := HK20.out; omega)).mono ?_
            rintro e x302 ⟨rfl, hO, -⟩
            replace HO := Lib.hid (show Own w none0 x302 [rowRl (.slice none 0 0) [], blkR bx (.cells #[.int .u16 xa, .int .u16 xb] 24), resP p (faP sd th fa k), resF f st2] from hO)
            clear hO
            go_wp2_with fail
            refine (o_still HO.out (valid_r HVB.out _)).mono ?_
            rintro e x303 ⟨rfl, hO, -⟩
            replace HO := Lib.hid (show Own w none0 x303 [rowRl (.slice none 0 0) [], blkR bx (.cells #[.int .u16 xa, .int .u16 xb] 24), resP p (faP sd th fa k), resF f st2] from hO)
            clear hO
            go_wp2
            go_ret
            exact ⟨by simp, HO.out.below⟩
          · exfalso; omega
      · clear hlt hke
        by_cases hsel : 0 < n ∧ 128 ≤ wh
        · obtain ⟨hs1, hs2⟩ := hsel
          have d1 : decide ((0 : Int) < n) = true := decide_eq_true (by omega)
          have d2 : decide (128 ≤ wh) = true := decide_eq_true hs2
          obtain ⟨m, hm⟩ : ∃ m : Nat, ((m : Nat) : Int) = mnG n 20 := ⟨(mnG n 20).toNat, by unfold mnG; omega⟩
          have hm1 : 1 ≤ m ∧ m ≤ n ∧ m ≤ 20 := by unfold mnG at hm; omega
          have e3 : mnG n 20 = m := hm.symm
          have d3 : ((m : Int) == 0) = false := by simp; omega
          obtain ⟨j, hj⟩ : ∃ j : Nat, ((j : Nat) : Int) = wh % m := ⟨(wh % m).toNat, by have := Int.emod_nonneg wh (show (m : Int) ≠ 0 by omega); omega⟩
          have hjm : (j : Int) < m := by rw [hj]; exact Int.emod_lt_of_pos _ (by omega)
          have e4 : wh % (m : Int) = j := hj.symm
          have e5 : wh.tmod (m : Int) = j := by rw [Int.tmod_eq_emod_of_nonneg (by omega)]; exact e4
          obtain ⟨bb, o, rfl, hcc⟩ := HP.out (by omega)
          have hcc := hcc j (by omega)
          obtain ⟨⟨a0, a1⟩, ⟨b0, b1⟩⟩ := HOK.out j (by omega)
          generalize g j = gk at *
          obtain ⟨ga, gb⟩ := gk
          simp only at a0 a1 b0 b1
          have y0 : wr.cell? ⟨bb, o + j * 2, none⟩ = some (.int .u16 ga) := keep HO.out.below (hcc 0 (by decide))
          have y1 : wr.cell? ⟨bb, o + j * 2 + 1, none⟩ = some (.int .u16 gb) := keep HO.out.below (hcc 1 (by decide))
          clear hcc hm hj
          have z1_0 : wr.cell? ⟨bx, 0, none⟩ = some (.int .u16 xa) := HO.out.cell 1 rfl 0 rfl
          have z1_1 : wr.cell? ⟨bx, 1, none⟩ = some (.int .u16 xb) := HO.out.cell 1 rfl 1 rfl
          obtain ⟨b, n2, he1, he2⟩ := fa_end (sd := sd) (th := th) (fa := fa) HK20.out (po := pt) (t := (1 + ga)) (f := (1 + gb % 65535)) (by omega) (by omega) (by omega)
          have HE1 := Lib.hid (show passF (faF sd th fa k) 1 (faX pt (1 + ga) (1 + gb % 65535)) true = (b, (passF (faF sd th fa k) 1 (faX pt (1 + ga) (1 + gb % 65535)) true).2) by rw [← he1])
          have HE2 := Lib.hid he2
          clear he1 he2
          have HVB := Lib.hid (validB_ok (n := (1 + ga)) (by omega))
          obtain ⟨st2, hst2⟩ : ∃ st2, (passF (faF sd th fa k) 1 (faX pt (1 + ga) (1 + gb % 65535)) true).2 = st2 := ⟨_, rfl⟩
          rw [hst2] at HE1
          clear hst2
          go_wp2_with fail
          refine (in_g (T := 0) (N := 20) (x := faX pt (1 + ga) (1 + gb % 65535)) HO.out 3 rfl HE1.out HFW.out.1 HFW.out.2 (by decide) (by decide) (by unfold timeB; omega)).mono ?_
          rintro e x301 ⟨rfl, hO, -⟩
          replace HO := Lib.hid (show Own w none0 x301 [rowRl (.slice none 0 0) [], blkR bx (.cells #[.int .u16 xa, .int .u16 xb] 24), resP p (faP sd th fa k), resF f st2] from hO)
          clear hO
          clear z1_0 z1_1
          go_wp2_with fail
          refine (look_o HO.out 2 rfl HE2.out (by show (faJ sd th fa k).length ≤ 1000000; rw [faJ_len]; have := HK20.out; omega)).mono ?_
          rintro e x302 ⟨rfl, hO, -⟩
          replace HO := Lib.hid (show Own w none0 x302 [rowRl (.slice none 0 0) [], blkR bx (.cells #[.int .u16 xa, .int .u16 xb] 24), resP p (faP sd th fa k), resF f st2] from hO)
          clear hO
          go_wp2_with fail
          refine (o_still HO.out (valid_r HVB.out _)).mono ?_
          rintro e x303 ⟨rfl, hO, -⟩
          replace HO := Lib.hid (show Own w none0 x303 [rowRl (.slice none 0 0) [], blkR bx (.cells #[.int .u16 xa, .int .u16 xb] 24), resP p (faP sd th fa k), resF f st2] from hO)
          clear hO
          go_wp2
          go_ret
          exact ⟨by simp, HO.out.below⟩
        · by_cases hs1 : 0 < n
          · have d1 : decide ((0 : Int) < n) = true := decide_eq_true (by omega)
            have d2 : decide (128 ≤ wh) = false := by simp; omega
            clear hsel
            skip
            have z1_0 : wr.cell? ⟨bx, 0, none⟩ = some (.int .u16 xa) := HO.out.cell 1 rfl 0 rfl
            have z1_1 : wr.cell? ⟨bx, 1, none⟩ = some (.int .u16 xb) := HO.out.cell 1 rfl 1 rfl
            obtain ⟨b, n2, he1, he2⟩ := fa_end (sd := sd) (th := th) (fa := fa) HK20.out (po := pt) (t := (1 + xa)) (f := (1 + xb % 65535)) (by omega) (by omega) (by omega)
            have HE1 := Lib.hid (show passF (faF sd th fa k) 1 (faX pt (1 + xa) (1 + xb % 65535)) true = (b, (passF (faF sd th fa k) 1 (faX pt (1 + xa) (1 + xb % 65535)) true).2) by rw [← he1])
            have HE2 := Lib.hid he2
            clear he1 he2
            have HVB := Lib.hid (validB_ok (n := (1 + xa)) (by omega))
            obtain ⟨st2, hst2⟩ : ∃ st2, (passF (faF sd th fa k) 1 (faX pt (1 + xa) (1 + xb % 65535)) true).2 = st2 := ⟨_, rfl⟩
            rw [hst2] at HE1
            clear hst2
            go_wp2_with fail
            refine (in_g (T := 0) (N := 20) (x := faX pt (1 + xa) (1 + xb % 65535)) HO.out 3 rfl HE1.out HFW.out.1 HFW.out.2 (by decide) (by decide) (by unfold timeB; omega)).mono ?_
            rintro e x301 ⟨rfl, hO, -⟩
            replace HO := Lib.hid (show Own w none0 x301 [rowRl (.slice none 0 0) [], blkR bx (.cells #[.int .u16 xa, .int .u16 xb] 24), resP p (faP sd th fa k), resF f st2] from hO)
            clear hO
            clear z1_0 z1_1
            go_wp2_with fail
            refine (look_o HO.out 2 rfl HE2.out (by show (faJ sd th fa k).length ≤ 1000000; rw [faJ_len]; have := HK20.out; omega)).mono ?_
            rintro e x302 ⟨rfl, hO, -⟩
            replace HO := Lib.hid (show Own w none0 x302 [rowRl (.slice none 0 0) [], blkR bx (.cells #[.int .u16 xa, .int .u16 xb] 24), resP p (faP sd th fa k), resF f st2] from hO)
            clear hO
            go_wp2_with fail
            refine (o_still HO.out (valid_r HVB.out _)).mono ?_
            rintro e x303 ⟨rfl, hO, -⟩
            replace HO := Lib.hid (show Own w none0 x303 [rowRl (.slice none 0 0) [], blkR bx (.cells #[.int .u16 xa, .int .u16 xb] 24), resP p (faP sd th fa k), resF f st2] from hO)
            clear hO
            go_wp2
            go_ret
            exact ⟨by simp, HO.out.below⟩
          · have d1 : decide ((0 : Int) < n) = false := by simp; omega
            clear hsel
            skip
            have z1_0 : wr.cell? ⟨bx, 0, none⟩ = some (.int .u16 xa) := HO.out.cell 1 rfl 0 rfl
            have z1_1 : wr.cell? ⟨bx, 1, none⟩ = some (.int .u16 xb) := HO.out.cell 1 rfl 1 rfl
            obtain ⟨b, n2, he1, he2⟩ := fa_end (sd := sd) (th := th) (fa := fa) HK20.out (po := pt) (t := (1 + xa)) (f := (1 + xb % 65535)) (by omega) (by omega) (by omega)
            have HE1 := Lib.hid (show passF (faF sd th fa k) 1 (faX pt (1 + xa) (1 + xb % 65535)) true = (b, (passF (faF sd th fa k) 1 (faX pt (1 + xa) (1 + xb % 65535)) true).2) by rw [← he1])
            have HE2 := Lib.hid he2
            clear he1 he2
            have HVB := Lib.hid (validB_ok (n := (1 + xa)) (by omega))
            obtain ⟨st2, hst2⟩ : ∃ st2, (passF (faF sd th fa k) 1 (faX pt (1 + xa) (1 + xb % 65535)) true).2 = st2 := ⟨_, rfl⟩
            rw [hst2] at HE1
            clear hst2
            go_wp2_with fail
            refine (in_g (T := 0) (N := 20) (x := faX pt (1 + xa) (1 + xb % 65535)) HO.out 3 rfl HE1.out HFW.out.1 HFW.out.2 (by decide) (by decide) (by unfold timeB; omega)).mono ?_
            rintro e x301 ⟨rfl, hO, -⟩
            replace HO := Lib.hid (show Own w none0 x301 [rowRl (.slice none 0 0) [], blkR bx (.cells #[.int .u16 xa, .int .u16 xb] 24), resP p (faP sd th fa k), resF f st2] from hO)
            clear hO
            clear z1_0 z1_1
            go_wp2_with fail
            refine (look_o HO.out 2 rfl HE2.out (by show (faJ sd th fa k).length ≤ 1000000; rw [faJ_len]; have := HK20.out; omega)).mono ?_
            rintro e x302 ⟨rfl, hO, -⟩
            replace HO := Lib.hid (show Own w none0 x302 [rowRl (.slice none 0 0) [], blkR bx (.cells #[.int .u16 xa, .int .u16 xb] 24), resP p (faP sd th fa k), resF f st2] from hO)
            clear hO
            go_wp2_with fail
            refine (o_still HO.out (valid_r HVB.out _)).mono ?_
            rintro e x303 ⟨rfl, hO, -⟩
            replace HO := Lib.hid (show Own w none0 x303 [rowRl (.slice none 0 0) [], blkR bx (.cells #[.int .u16 xa, .int .u16 xb] 24), resP p (faP sd th fa k), resF f st2] from hO)
            clear hO
            go_wp2
            go_ret
            exact ⟨by simp, HO.out.below⟩
end

end Go.Proofs.Ytjngfhgcifhioaa
