/- wire.words and wire.Checksum. Printed by wip/tools/gen23B.py. -/
import Derived.Test.YthdnonoheochhaaGreatDoorRfo
import Derived.Test.YthdnonoheochhaaGreatDoorBld
namespace Go.Proofs.YthdnonoheochhaaGreatDoor
open Go.RowKit Go.Sort
set_option linter.unusedVariables false
set_option maxRecDepth 100000
attribute [local go_sem] Oper.semAt_some
def wdsL : List UInt8 → List Int
  | [] => []
  | [a] => [(a.toNat : Int) * 256]
  | a :: b :: r => ((a.toNat : Int) * 256 + (b.toNat : Int)) :: wdsL r
theorem wdsL_len : ∀ l : List UInt8, (wdsL l).length ≤ l.length
  | [] => Nat.le_refl _
  | [a] => Nat.le_refl _
  | a :: b :: r => by have := wdsL_len r; simp only [wdsL, List.length_cons]; omega
abbrev Wd16 := { x : Int // 0 ≤ x ∧ x ≤ 65535 }
abbrev encW (x : Wd16) : Array Value := #[.int .i64 x.1]
theorem or_21 (b0 b1 : Nat) (h0 : b0 < 256) (h1 : b1 < 256) : bits .or .i64 ((b0 : Int) * 256) (b1 : Int) = (b0 : Int) * 256 + b1 := by
  have := or_add (x := (b0 : Int) * 256) (y := (b1 : Int)) b0 b1 8 (by simp) rfl (by simpa using h1) (by omega)
  rw [this]; simp
theorem words_any (s : ByteArray) (w : World) : Calls Tryz.prog 70 #[.string s] w fun e w' => e = .returned (.func (.func 108) #[] #[.pointer (some ⟨w.heap.size, 0, none⟩)]) ∧ w' = w.alloc (.cells #[.string s] 9) := by
  go_enter Tryz.func70, Tryz.ntmps70
  go_wp2
  go_ret
  exact ⟨rfl, rfl⟩
theorem yield_ways2 {A B : Prop} {e : Ending} (h : (e = .returned (.bool true) ∧ A) ∨ (e = .returned (.bool false) ∧ B)) : ∃ bb : Bool, e = .returned (.bool bb) ∧ ((bb = true → A) ∧ (bb = false → B)) := by
  rcases h with ⟨h1, h2⟩ | ⟨h1, h2⟩
  · exact ⟨true, h1, fun _ => h2, fun h => by cases h⟩
  · exact ⟨false, h1, (fun h => by cases h), fun _ => h2⟩
theorem ix_str {s : ByteArray} {i : Nat} {b : UInt8} (h : s.data.toList[i]? = some b) (w : World) : (Instr.index 9 (.string s) (.int .i64 (i : Int))).run Tryz.prog w = .ok (.int .u8 (b.toNat : Int)) w := by
  obtain ⟨h1, h2⟩ := List.getElem?_eq_some_iff.1 h
  have h3 : i < s.size := by rw [Lib.size_eq]; exact h1
  rw [run_index_string (P := Tryz.prog) w 9 s .i64 i (by kernel_rfl)]
  rw [dif_pos ⟨by omega, by omega⟩]
  have h4 : s[((i : Int)).toNat]'(by omega) = b := by
    rw [← h2]; simp [ByteArray.getElem_eq_getElem_data]
  rw [h4]
theorem ix_str1 {s : ByteArray} {i : Nat} {b : UInt8} (h : s.data.toList[i + 1]? = some b) (w : World) : (Instr.index 9 (.string s) (.int .i64 ((i : Int) + 1))).run Tryz.prog w = .ok (.int .u8 (b.toNat : Int)) w := by
  have := ix_str (i := i + 1) h w
  rwa [Int.natCast_add] at this
set_option maxHeartbeats 4000000 in
theorem words_in (n : Nat) (hn : 1 ≤ n) (l' N b : Nat) (s : ByteArray) (hs : s.size ≤ 1000000) (hN : (wdsL s.data.toList).length ≤ N) (J Jx : List Wd16 → World → Prop) (D : Nat → Prop) (w W : World) (hbW : Below w.heap.size w W) (hJ : AbidesFrom W.heap.size J)
    (hY : ∀ pre x W1, J pre W1 → pre.length < N → YieldAt Fence.wide (n - 1) Tryz.prog l' (encW x) W1 fun e W' => (e = .returned (.bool true) ∧ J (pre ++ [x]) W' ∧ kpO D w W1 W') ∨ (e = .returned (.bool false) ∧ Jx (pre ++ [x]) W'))
    (hM : ∀ W', kpO D w w W' → W'.cell? ⟨b, 0, none⟩ = some (.string s)) (h0 : J [] W) :
    CallsIn Fence.wide n Tryz.prog 108 #[.func (.yield l') #[] #[], .pointer (some ⟨b, 0, none⟩)] W fun e W' => (∃ v, e = .returned v) ∧ ((∃ ys, ys.map (·.1) = wdsL s.data.toList ∧ J ys W') ∨ (∃ pre, pre.map (·.1) <+: wdsL s.data.toList ∧ Jx pre W')) := by
  have HY := Lib.hid hY
  have HJ := Lib.hid hJ
  have HN := Lib.hid hN
  have HM := Lib.hid hM
  have hk0 : kpO D w w W := Upd.of_below hbW
  have HK0 := Lib.hid hk0
  have HSZ := Lib.hid (Lib.size_eq s)
  obtain ⟨m, hm⟩ : ∃ m, s.size = m := ⟨_, rfl⟩
  have HL := Lib.hid hm
  rw [hm] at hs
  clear hY hJ hN hM hk0 hbW
  refine callsIn_of_wp Tryz.func108 rfl trivial ?_ rfl
  simp only [Tryz.ntmps108, List.size_toArray, List.length_cons, List.length_nil, Nat.reduceAdd, Nat.reduceSub, Array.replicate_succ, Array.replicate_zero, List.push_toArray, List.append_toArray, List.nil_append, List.cons_append]
  gi_wp2
  gi_loopw [3] (fun rv wr => ∃ pre : List Wd16, ∃ i : Nat, rv = .int .i64 i ∧ i ≤ m + 1 ∧ wdsL s.data.toList = pre.map (·.1) ++ wdsL (s.data.toList.drop i) ∧ J pre wr ∧ kpO D w w wr) (fun rv _ => m + 1 - (intOf rv).toNat)
  case atStart => exact ⟨[], 0, rfl, Nat.zero_le _, rfl, h0, HK0.out⟩
  case round =>
    obtain ⟨pre, i, rfl, his, hpc, hJs, hkp⟩ := hrel
    have HP := Lib.hid hpc
    have HJs := Lib.hid hJs
    have HK := Lib.hid hkp
    have hcell := HM.out _ hkp
    clear hpc hJs hkp
    by_cases hlt : i < m
    · have hi0 : i < s.data.toList.length := by have := HSZ.out; omega
      have hc : decide ((i : Int) < (m : Int)) = true := decide_eq_true (by omega)
      have hg0 : s.data.toList[i]? = some s.data.toList[i] := List.getElem?_eq_getElem hi0
      have HD := Lib.hid (List.drop_eq_getElem_cons hi0)
      generalize s.data.toList[i] = b0 at *
      have x0 := ix_str hg0
      have hb0 := b0.toNat_lt
      by_cases hlt2 : i + 1 < m
      · have hi1 : i + 1 < s.data.toList.length := by have := HSZ.out; omega
        have hc1 : decide ((i : Int) + 1 < (m : Int)) = true := decide_eq_true (by omega)
        have hg1 : s.data.toList[i + 1]? = some s.data.toList[i + 1] := List.getElem?_eq_getElem hi1
        have HD1 := Lib.hid (List.drop_eq_getElem_cons hi1)
        generalize s.data.toList[i + 1] = b1 at *
        have x1 := ix_str1 hg1
        have hb1 := b1.toNat_lt
        obtain ⟨wd, hwd⟩ : ∃ wd : Wd16, wd.1 = (b0.toNat : Int) * 256 + b1.toNat := ⟨⟨(b0.toNat : Int) * 256 + b1.toNat, by omega, by omega⟩, rfl⟩
        have hor : bits .or .i64 ((b0.toNat : Int) * 256) (b1.toNat : Int) = wd.1 := by rw [hwd]; exact or_21 b0.toNat b1.toNat hb0 hb1
        have HW := Lib.hid (show wdsL s.data.toList = (pre ++ [wd]).map (·.1) ++ wdsL (s.data.toList.drop (i + 2)) by rw [HP.out, HD.out, HD1.out]; simp [wdsL, hwd])
        have HPL := Lib.hid (show pre.length < N by have h1 := HN.out; rw [HP.out, HD.out, HD1.out, List.length_append, List.length_map] at h1; simp only [wdsL, List.length_cons] at h1; omega)
        have Y := Lib.hid (HY.out pre wd wr HJs.out HPL.out)
        unfold encW at Y
        clear hg0 hg1 hi0 hi1 hwd
        obtain ⟨fn, tmps, assign, body, hy, hR⟩ := Y.out
        gi_wp2_with (refine hR.mono ?_; intro e W3 h3; obtain ⟨bb, rfl, hbb⟩ := yield_ways2 h3; have HBB := Lib.hid hbb; clear h3 hbb hy hR)
        all_goals first
          | (have hb0 : (!bb) = false := by assumption
             have hb : bb = true := by simpa using hb0
             go_roundw
             case rel => exact ⟨pre ++ [wd], i + 2, by go_num, by omega, HW.out, (HBB.out.1 hb).1, HK.out.trans (HBB.out.1 hb).2⟩
             case measure => simp [intOf]; omega)
          | (have hb0 : (!bb) = true := by assumption
             have hb' : bb = false := by simpa using hb0
             refine bodyPost_ret (results_none rfl _ _ _) rfl ?_
             exact ⟨⟨_, rfl⟩, .inr ⟨pre ++ [wd], ⟨_, HW.out.symm⟩, HBB.out.2 hb'⟩⟩)
      · have hc1 : decide ((i : Int) + 1 < (m : Int)) = false := decide_eq_false (by omega)
        have hE : s.data.toList.drop (i + 1) = [] := List.drop_eq_nil_of_le (by have := HSZ.out; omega)
        have hE2 : s.data.toList.drop (i + 2) = [] := List.drop_eq_nil_of_le (by have := HSZ.out; omega)
        obtain ⟨wd, hwd⟩ : ∃ wd : Wd16, (b0.toNat : Int) * 256 = wd.1 := ⟨⟨(b0.toNat : Int) * 256, by omega, by omega⟩, rfl⟩
        have HW := Lib.hid (show wdsL s.data.toList = (pre ++ [wd]).map (·.1) ++ wdsL (s.data.toList.drop (i + 2)) by rw [HP.out, HD.out, hE, hE2]; simp [wdsL, hwd])
        have HPL := Lib.hid (show pre.length < N by have h1 := HN.out; rw [HP.out, HD.out, hE, List.length_append, List.length_map] at h1; simp only [wdsL, List.length_cons] at h1; omega)
        have Y := Lib.hid (HY.out pre wd wr HJs.out HPL.out)
        unfold encW at Y
        clear hg0 hi0 hE hE2
        obtain ⟨fn, tmps, assign, body, hy, hR⟩ := Y.out
        gi_wp2_with (refine hR.mono ?_; intro e W3 h3; obtain ⟨bb, rfl, hbb⟩ := yield_ways2 h3; have HBB := Lib.hid hbb; clear h3 hbb hy hR)
        all_goals first
          | (have hb0 : (!bb) = false := by assumption
             have hb : bb = true := by simpa using hb0
             go_roundw
             case rel => exact ⟨pre ++ [wd], i + 2, by go_num, by omega, HW.out, (HBB.out.1 hb).1, HK.out.trans (HBB.out.1 hb).2⟩
             case measure => simp [intOf]; omega)
          | (have hb0 : (!bb) = true := by assumption
             have hb' : bb = false := by simpa using hb0
             refine bodyPost_ret (results_none rfl _ _ _) rfl ?_
             exact ⟨⟨_, rfl⟩, .inr ⟨pre ++ [wd], ⟨_, HW.out.symm⟩, HBB.out.2 hb'⟩⟩)
    · have hdl : decide ((i : Int) < (m : Int)) = false := decide_eq_false (by omega)
      have hE : s.data.toList.drop i = [] := List.drop_eq_nil_of_le (by have := HSZ.out; omega)
      gi_wp2
      go_end0
      exact ⟨⟨_, rfl⟩, .inl ⟨pre, by rw [HP.out, hE]; simp [wdsL], HJs.out⟩⟩
theorem words_stops (n : Nat) (hn : 1 ≤ n) (N b : Nat) (s : ByteArray) (hs : s.size ≤ 1000000) (hN : (wdsL s.data.toList).length ≤ N) (D DA : Nat → Prop) (w : World) (hA : Own w DA w [blkR b (.cells #[.string s] 9)]) (hd : ∀ b, DA b → ¬ D b) :
    SeqStopsK Fence.wide n Tryz.prog 108 #[.pointer (some ⟨b, 0, none⟩)] encW (kpO D w) (fun xs : List Wd16 => xs.map (·.1) = wdsL s.data.toList) (fun pre => pre.map (·.1) <+: wdsL s.data.toList) N w := by
  intro l' J Jx W hW hJ hJx hY h0
  refine words_in n hn l' N b s hs hN J Jx D w W hW hJ hY (fun W' hu => ?_) h0
  have h2 := hA.apart hu (fun b hb hD hG => hG.elim (hd b hD) (fun h => by omega))
  exact h2.cell 0 rfl 0 rfl
def ckFold (n : Nat) : Nat := if h : n ≤ 65535 then n else ckFold (n % 65536 + n / 65536)
termination_by n
decreasing_by omega
theorem ckFold_small {n : Nat} (h : n ≤ 65535) : ckFold n = n := by rw [ckFold, dif_pos h]
theorem ckFold_step {n : Nat} (h : ¬ n ≤ 65535) : ckFold n = ckFold (n % 65536 + n / 65536) := by rw [ckFold, dif_neg h]
theorem ckFold_le (n : Nat) : ckFold n ≤ 65535 := by
  induction n using Nat.strongRecOn with
  | ind n ih =>
    by_cases h : n ≤ 65535
    · rw [ckFold_small h]; exact h
    · rw [ckFold_step h]; exact ih _ (by omega)
def ckF (s : ByteArray) : Int := 65535 - (ckFold (wdsL s.data.toList).sum.toNat : Int)
theorem ckF_range (s : ByteArray) : 0 ≤ ckF s ∧ ckF s ≤ 65535 := by
  have := ckFold_le (wdsL s.data.toList).sum.toNat
  unfold ckF; omega
def ckI (bs : Nat) (pre : List Wd16) (L : List Res) : Prop := L = [blkR bs (.cells #[.int .i64 (pre.map (·.1)).sum] 3)]
def ckX (c : Code) (pre : List Wd16) (L : List Res) : Prop := False
theorem ckI_still {B bs : Nat} : ∀ pre L, ckI bs pre L → stills B L := fun pre L h => by rw [h]; exact stills_cons (still_blk _ rfl) stills_nil
theorem ckX_still {B : Nat} : ∀ c pre L, ckX c pre L → stills B L := fun c pre L h => h.elim
theorem wd_sum : ∀ pre : List Wd16, 0 ≤ (pre.map (·.1)).sum ∧ (pre.map (·.1)).sum ≤ (pre.length : Int) * 65535
  | [] => by simp
  | ⟨x, h1, h2⟩ :: pre => by
    have ih := wd_sum pre
    simp only [List.map_cons, List.sum_cons, List.length_cons]
    have : (((pre.length + 1 : Nat) : Int)) * 65535 = (pre.length : Int) * 65535 + 65535 := by omega
    omega
theorem wd_all : ∀ l : List UInt8, ∃ ys : List Wd16, ys.map (·.1) = wdsL l
  | [] => ⟨[], rfl⟩
  | [a] => ⟨[⟨(a.toNat : Int) * 256, by omega, by have := a.toNat_lt; omega⟩], rfl⟩
  | a :: b :: r => by
    obtain ⟨ys, h⟩ := wd_all r
    exact ⟨⟨(a.toNat : Int) * 256 + b.toNat, by omega, by have := a.toNat_lt; have := b.toNat_lt; omega⟩ :: ys, by simp [wdsL, h]⟩
def cellInt (w : World) (b : Nat) : Nat := match w.cell? ⟨b, 0, none⟩ with
  | some (.int _ p) => p.toNat
  | _ => 0
theorem cellInt_is {w : World} {b : Nat} {m : Int} (h : w.cell? ⟨b, 0, none⟩ = some (.int .i64 m)) : cellInt w b = m.toNat := by
  unfold cellInt; rw [h]
set_option maxRecDepth 100000 in
set_option maxHeartbeats 4000000 in
theorem cksum_r (s : ByteArray) (hs : s.size ≤ 100000) (w : World) : Calls Tryz.prog 33 #[.string s] w fun e w' => e = .returned (.int .i64 (ckF s)) ∧ Below w.heap.size w w' := by
  refine (callsIn_wide (n := 5)).1 ?_
  obtain ⟨n, hn⟩ : ∃ n : Nat, n = 5 := ⟨_, rfl⟩
  rw [← hn]
  have h1 : 1 ≤ n := by omega
  have HNN := Lib.hid hn
  have HO := Lib.hid (Own.nil w none0)
  have HSZ := Lib.hid (Lib.size_eq s)
  have HS := Lib.hid hs
  clear hn hs
  obtain ⟨x1, hx1⟩ : ∃ y, w.alloc (.cells #[.int .i64 0] 3) = y := ⟨_, rfl⟩
  obtain ⟨bs, hbs⟩ : ∃ y, w.heap.size = y := ⟨_, rfl⟩
  have hO := HO.out.alloc (.cells #[.int .i64 0] 3)
  rw [hx1, hbs] at hO
  replace HO := Lib.hid (show Own w none0 x1 [blkR bs (.cells #[.int .i64 0] 3)] from hO)
  clear hO
  have z0_0 : x1.cell? ⟨bs, 0, none⟩ = some (.int .i64 0) := HO.out.cell 0 rfl 0 rfl
  have y0_0 : x1.frozen? ⟨bs, 0, none⟩ = false := HO.out.frz 0 rfl 0
  obtain ⟨x2, hx2⟩ : ∃ y, x1.setCell ⟨bs, 0, none⟩ (.int .i64 0) = y := ⟨_, rfl⟩
  have hO := HO.out.setCell 0 rfl 0 (.int .i64 0)
  rw [hx2] at hO
  replace HO := Lib.hid (show Own w none0 x2 [blkR bs (.cells #[.int .i64 0] 3)] from hO)
  clear hO
  refine callsIn_of_wp_marks Tryz.func33 rfl trivial ?_ rfl
  simp only [Tryz.ntmps33, List.size_toArray, List.length_cons, List.length_nil, Nat.reduceAdd, Nat.reduceSub, Array.replicate_succ, Array.replicate_zero, List.push_toArray, List.append_toArray, List.nil_append, List.cons_append]
  gi_wp2_with (refine ⟨trivial, ?_⟩; gi_at_call 70; refine (callsIn_wide.2 (words_any s _)).mono ?_; rintro e xw ⟨rfl, rfl⟩)
  obtain ⟨x9, hx9⟩ : ∃ y, x2.alloc (.cells #[.string s] 9) = y := ⟨_, rfl⟩
  rw [hx9]
  obtain ⟨bi, hbi⟩ : ∃ y, x2.heap.size = y := ⟨_, rfl⟩
  have hO := HO.out.alloc (.cells #[.string s] 9)
  rw [hx9, hbi] at hO
  replace HO := Lib.hid (show Own w none0 x9 [blkR bs (.cells #[.int .i64 0] 3), blkR bi (.cells #[.string s] 9)] from hO)
  rw [hbi]
  clear hO hx9 hbi hx1 hbs z0_0 y0_0 hx2
  have hp := HO.out.pick [1, 0] (by decide) (L' := [blkR bi (.cells #[.string s] 9)] ++ [blkR bs (.cells #[.int .i64 0] 3)]) (fun k R hk => by
    match k, hk with
    | 0, hk => exact ⟨1, rfl, hk⟩
    | 1, hk => exact ⟨0, rfl, hk⟩)
  obtain ⟨DA, DB, s1, s2, s3, s4, s5, s6⟩ := Own.split (A := [blkR bi (.cells #[.string s] 9)]) (B := [blkR bs (.cells #[.int .i64 0] 3)]) hp
  clear hp HO
  refine wpIn_rangeO (encs := encW) (D := DB) h1 (gf := 108) (lb := #[.pointer (some ⟨bi, 0, none⟩)]) rfl (enters_of Tryz.func108 (by kernel_rfl) rfl)
    (words_stops (n - 1) (by have := HNN.out; omega) (wdsL s.data.toList).length bi s (by have := HS.out; omega) (Nat.le_refl _) DB DA x9 s1 s3) (fun _ => rfl)
    (ckI bs) ckX ckI_still ckX_still s2 (by unfold ckI; rfl)
    (fun x a' Lx => Lx = [] ∧ a' = { tmps := #[.string s, undef, .int .i64 0, .pointer (some ⟨bs, 0, none⟩), .int .i64 x.1, .string s, .func (.func 108) #[] #[.pointer (some ⟨bi, 0, none⟩)], .int .i64 x.1, undef, undef, undef, undef, undef, undef, undef, undef, undef, undef, undef, undef], defers := [] })
    ?assign ?body ?done ?stop
  case assign =>
    intro l pre x W D' L K hi ho hK
    gi_wp2
    exact hK _ _ [] ⟨rfl, rfl⟩ (by simpa using ho)
  case body =>
    rintro l pre ⟨x, hx1, hx2⟩ a' W D' L Lx rfl ⟨rfl, rfl⟩ hlt hup ho
    have HO := Lib.hid (show Own W D' W [blkR bs (.cells #[.int .i64 (pre.map (·.1)).sum] 3)] from ho)
    clear ho
    have hsum := wd_sum pre
    have hln := wdsL_len s.data.toList
    have hpl : (pre.length : Int) ≤ 100000 := by have h1 := HS.out; have h2 := HSZ.out; omega
    obtain ⟨hs1, hs2⟩ := hsum
    have HI := Lib.hid (show ckI bs (pre ++ [⟨x, hx1, hx2⟩]) [blkR bs (.cells #[.int .i64 ((pre.map (·.1)).sum + x)] 3)] by unfold ckI; simp)
    have hs3 : (pre.map (·.1)).sum ≤ 6553500000 := by omega
    generalize (pre.map (·.1)).sum = sm at *
    clear hs2 hln hpl
    have c0 : W.cell? ⟨bs, 0, none⟩ = some (.int .i64 sm) := HO.out.cell 0 rfl 0 rfl
    have f0 : W.frozen? ⟨bs, 0, none⟩ = false := HO.out.frz 0 rfl 0
    have hO2 := Own.setCell HO.out 0 rfl 0 (.int .i64 (sm + x))
    gi_wp2
    exact ⟨_, HI.out, hO2⟩
  case done =>
    rintro k xs W L hxs hi ho
    unfold ckI at hi
    rw [hxs] at hi
    subst hi
    have hsum : ∃ ys : List Wd16, ys.map (·.1) = wdsL s.data.toList := wd_all _
    obtain ⟨ys, hys⟩ := hsum
    have hb := wd_sum ys
    rw [hys] at hb
    have hyl : ys.length ≤ s.data.toList.length := by have := wdsL_len s.data.toList; rw [← hys, List.length_map] at this; exact this
    obtain ⟨sm, hsm⟩ : ∃ m : Nat, (wdsL s.data.toList).sum = (m : Int) := ⟨(wdsL s.data.toList).sum.toNat, by omega⟩
    have hCK : ckF s = 65535 - (ckFold sm : Int) := by unfold ckF; rw [hsm]; rfl
    have hsb : sm ≤ 6553500000 := by have h1 := HS.out; have h2 := HSZ.out; omega
    rw [hsm] at ho
    have HO := Lib.hid (show Own x9 DB W [blkR k (.deferred (some [])), blkR bs (.cells #[.int .i64 (sm : Int)] 3)] from ho)
    have HCK := Lib.hid hCK
    clear ho hCK hsm hb hys hyl
    gi_wp2
    gi_loopw [] (fun wr => ∃ q : Nat, q ≤ 6553500000 ∧ ckFold q = ckFold sm ∧ Own x9 DB wr [blkR k (.deferred (some [])), blkR bs (.cells #[.int .i64 (q : Int)] 3)]) (fun wr => cellInt wr bs)
    case atStart => exact ⟨sm, hsb, rfl, HO.out⟩
    case round =>
      obtain ⟨q, hq, hf, hO⟩ := hrel
      replace HO := Lib.hid hO
      have HF := Lib.hid hf
      clear hO hf
      have c0 : wr.cell? ⟨bs, 0, none⟩ = some (.int .i64 (q : Int)) := HO.out.cell 1 rfl 0 rfl
      have f0 : wr.frozen? ⟨bs, 0, none⟩ = false := HO.out.frz 1 rfl 0
      have hci := cellInt_is c0
      by_cases hlt : q ≤ 65535
      · have hdl : decide ((65535 : Int) < (q : Int)) = false := decide_eq_false (by omega)
        have hdl2 : decide ((q : Int) > 65535) = false := decide_eq_false (by omega)
        have HR := Lib.hid (show (65535 : Int) - (q : Int) = ckF s by rw [HCK.out, ← HF.out, ckFold_small hlt])
        gi_wp2
        refine ⟨by simp, .inl ⟨_, _, rfl, run_takeDeferred (Own.blk HO.out 0 rfl), ?_⟩⟩
        have hF := (s6 _ _ (Own.put HO.out 0 rfl (.deferred none)))
        exact ⟨_, results_tmp rfl _ _ _, by rw [← HR.out]; rfl, hF.below⟩
      · have hdl : decide ((65535 : Int) < (q : Int)) = true := decide_eq_true (by omega)
        have hdl2 : decide ((q : Int) > 65535) = true := decide_eq_true (by omega)
        have HR := Lib.hid (show ckFold (q % 65536 + q / 65536) = ckFold sm by rw [← ckFold_step hlt, HF.out])
        have hO2 := Own.setCell HO.out 1 rfl 0 (.int .i64 ((q % 65536 + q / 65536 : Nat) : Int))
        have c9 := hO2.cell 1 rfl 0 rfl
        have hci2 := cellInt_is c9
        gi_wp2
        have hcast : ((q % 65536 + q / 65536 : Nat) : Int) = (q : Int) % 65536 + (q : Int) / 65536 := by omega
        rw [← hcast]
        exact ⟨⟨q % 65536 + q / 65536, by omega, HR.out, hO2⟩, by rw [hci, hci2]; omega⟩
  case stop =>
    rintro k c pre W L hpre hf ho
    exact hf.elim
end Go.Proofs.YthdnonoheochhaaGreatDoor
