/- wire.words and wire.Checksum. -/
import Derived.Test.YtbhglemolpfnkaaGreatDoorBc
import Derived.Test.YtbhglemolpfnkaaGreatDoorBld
import Derived.Shelf.Strings.OnBuilder
import Derived.Test.YtbhglemolpfnkaaGreatDoorProg
set_option linter.unusedVariables false
set_option maxRecDepth 100000
set_option maxHeartbeats 32000000
namespace Go.Proofs.YtbhglemolpfnkaaGreatDoor
variable {s : ByteArray}
section
open Go.RowKit Go.Sort
attribute [local go_sem] Oper.semAt_some

def wdsL : List UInt8 → List Int
 | [] => []
 | [a] => [(a.toNat : Int) * 256]
 | a :: b :: r => ((a.toNat : Int) * 256 + (b.toNat : Int)) :: wdsL r
theorem wdsL_len : ∀ l : List UInt8, (wdsL l).length ≤ l.length
 | [] => Nat.le_refl _
 | [a] => Nat.le_refl _
 | a :: b :: r => by have := wdsL_len r; simp only [wdsL, List.length_cons]; omega
abbrev Wd16 := { x : Int // 0 ≤ x ∧ x ≤ 65535 }
abbrev encW (x : Wd16) : Array Value := #[.int .i64 x.1]
theorem or_21 (b0 b1 : Nat) (h0 : b0 < 256) (h1 : b1 < 256) : bits .or .i64 ((b0 : Int) * 256) (b1 : Int) = (b0 : Int) * 256 + b1 := by
 have := or_add (x := (b0 : Int) * 256) (y := (b1 : Int)) b0 b1 8 (by simp) rfl (by simpa using h1) (by omega)
 rw [this]; simp
theorem words_any (s : ByteArray) (w : World) : Calls Tryz.prog 159 #[.string s] w fun e w' => e = .returned (.func (.func 189) #[] #[.pointer (some ⟨w.heap.size, 0, none⟩)]) ∧ w' = w.alloc (.cells #[.string s] 9) := by
 go_enter Tryz.func159, Tryz.ntmps159
 go_wp2
 go_ret
 exact ⟨rfl, rfl⟩
theorem yield_ways2 {A B : Prop} {e : Ending} (h : (e = .returned (.bool true) ∧ A) ∨ (e = .returned (.bool false) ∧ B)) : ∃ bb : Bool, e = .returned (.bool bb) ∧ ((bb = true → A) ∧ (bb = false → B)) := by
 rcases h with ⟨h1, h2⟩ | ⟨h1, h2⟩
 ·
  exact ⟨true, h1, fun _ => h2, fun h => by cases h⟩
 ·
  exact ⟨false, h1, (fun h => by cases h), fun _ => h2⟩
theorem ix_str {i : Nat} {b : UInt8} (h : s.data.toList[i]? = some b) (w : World) : (Instr.index 9 (.string s) (.int .i64 (i : Int))).run Tryz.prog w = .ok (.int .u8 (b.toNat : Int)) w := by
 obtain ⟨h1, h2⟩ := List.getElem?_eq_some_iff.1 h
 have h3 : i < s.size := by rw [Lib.size_eq]; exact h1
 rw [run_index_string (P := Tryz.prog) w 9 s .i64 i (by kernel_rfl)]
 rw [dif_pos ⟨by omega, by omega⟩]
 have h4 : s[((i : Int)).toNat]'(by omega) = b := by
  rw [← h2]; simp [ByteArray.getElem_eq_getElem_data]
 rw [h4]
theorem ix_str1 {i : Nat} {b : UInt8} (h : s.data.toList[i + 1]? = some b) (w : World) : (Instr.index 9 (.string s) (.int .i64 ((i : Int) + 1))).run Tryz.prog w = .ok (.int .u8 (b.toNat : Int)) w := by
 have := ix_str (i := i + 1) h w
 rwa [Int.natCast_add] at this
theorem words_in (n : Nat) (hn : 1 ≤ n) (l' N b : Nat) (s : ByteArray) (hs : s.size ≤ 1000000) (hN : (wdsL s.data.toList).length ≤ N) (J Jx : List Wd16 → World → Prop) (D : Nat → Prop) (w W : World) (hbW : Below w.heap.size w W) (hJ : AbidesFrom W.heap.size J)
    (hY : ∀ pre x W1, J pre W1 → pre.length < N → YieldAt Fence.wide (n - 1) Tryz.prog l' (encW x) W1 fun e W' => (e = .returned (.bool true) ∧ J (pre ++ [x]) W' ∧ kpO D w W1 W') ∨ (e = .returned (.bool false) ∧ Jx (pre ++ [x]) W'))
    (hM : ∀ W', kpO D w w W' → W'.cell? ⟨b, 0, none⟩ = some (.string s)) (h0 : J [] W) :
    CallsIn Fence.wide n Tryz.prog 189 #[.func (.yield l') #[] #[], .pointer (some ⟨b, 0, none⟩)] W fun e W' => (∃ v, e = .returned v) ∧ ((∃ ys, ys.map (·.1) = wdsL s.data.toList ∧ J ys W') ∨ (∃ pre, pre.map (·.1) <+: wdsL s.data.toList ∧ Jx pre W')) := by
  have HY := Hi hY
  have HJ := Hi hJ
  have HN := Hi hN
  have HM := Hi hM
  have hk0 : kpO D w w W := Upd.of_below hbW
  have HK0 := Hi hk0
  have HSZ := Hi (Lib.size_eq s)
  obtain ⟨m, hm⟩ : ∃ m, s.size = m := ⟨_, rfl⟩
  have HL := Hi hm
  rw [hm] at hs
  clear hY hJ hN hM hk0 hbW
  refine callsIn_of_wp Tryz.func189 rfl trivial ?_ rfl
  simp only [Tryz.ntmps189, List.size_toArray, List.length_cons, List.length_nil, Nat.reduceAdd, Nat.reduceSub, Array.replicate_succ, Array.replicate_zero, List.push_toArray, List.append_toArray, List.nil_append, List.cons_append]
  gi_wp2
  gi_loopw [3] (fun rv wr => ∃ pre : List Wd16, ∃ i : Nat, rv = .int .i64 i ∧ i ≤ m + 1 ∧ wdsL s.data.toList = pre.map (·.1) ++ wdsL (s.data.toList.drop i) ∧ J pre wr ∧ kpO D w w wr) (fun rv _ => m + 1 - (intOf rv).toNat)
  case atStart => exact ⟨[], 0, rfl, Nat.zero_le _, rfl, h0, HK0.out⟩
  case round =>
    obtain ⟨pre, i, rfl, his, hpc, hJs, hkp⟩ := hrel
    have HP := Hi hpc
    have HJs := Hi hJs
    have HK := Hi hkp
    have hcell := HM.out _ hkp
    clear hpc hJs hkp
    by_cases hlt : i < m
    · have hi0 : i < s.data.toList.length := by have := HSZ.out; omega
      have hc : decide ((i : Int) < (m : Int)) = true := decide_eq_true (by omega)
      have hg0 : s.data.toList[i]? = some s.data.toList[i] := List.getElem?_eq_getElem hi0
      have HD := Hi (List.drop_eq_getElem_cons hi0)
      generalize s.data.toList[i] = b0 at *
      have x0 := ix_str hg0
      have hb0 := b0.toNat_lt
      by_cases hlt2 : i + 1 < m
      · have hi1 : i + 1 < s.data.toList.length := by have := HSZ.out; omega
        have hc1 : decide ((i : Int) + 1 < (m : Int)) = true := decide_eq_true (by omega)
        have hg1 : s.data.toList[i + 1]? = some s.data.toList[i + 1] := List.getElem?_eq_getElem hi1
        have HD1 := Hi (List.drop_eq_getElem_cons hi1)
        generalize s.data.toList[i + 1] = b1 at *
        have x1 := ix_str1 hg1
        have hb1 := b1.toNat_lt
        obtain ⟨wd, hwd⟩ : ∃ wd : Wd16, wd.1 = (b0.toNat : Int) * 256 + b1.toNat := ⟨⟨(b0.toNat : Int) * 256 + b1.toNat, by omega, by omega⟩, rfl⟩
        have hor : bits .or .i64 ((b0.toNat : Int) * 256) (b1.toNat : Int) = wd.1 := by rw [hwd]; exact or_21 b0.toNat b1.toNat hb0 hb1
        have HW := Hi (show wdsL s.data.toList = (pre ++ [wd]).map (·.1) ++ wdsL (s.data.toList.drop (i + 2)) by rw [HP.out, HD.out, HD1.out]; simp [wdsL, hwd])
        have HPL := Hi (show pre.length < N by have h1 := HN.out; rw [HP.out, HD.out, HD1.out, List.length_append, List.length_map] at h1; simp only [wdsL, List.length_cons] at h1; omega)
        have Y := Hi (HY.out pre wd wr HJs.out HPL.out)
        unfold encW at Y
        clear hg0 hg1 hi0 hi1 hwd
        obtain ⟨fn, tmps, assign, body, hy, hR⟩ := Y.out
        gi_wp2_with (refine hR.mono ?_; intro e W3 h3; obtain ⟨bb, rfl, hbb⟩ := yield_ways2 h3; have HBB := Hi hbb; clear h3 hbb hy hR)
        all_goals first
          | (have hb0 : (!bb) = false := by assumption
             have hb : bb = true := by simpa using hb0
             go_roundw
             case rel => exact ⟨pre ++ [wd], i + 2, by go_num, by omega, HW.out, (HBB.out.1 hb).1, HK.out.trans (HBB.out.1 hb).2⟩
             case measure => simp [intOf]; omega)
          | (have hb0 : (!bb) = true := by assumption
             have hb' : bb = false := by simpa using hb0
             refine bodyPost_ret (results_none rfl _ _ _) rfl ?_
             exact ⟨⟨_, rfl⟩, .inr ⟨pre ++ [wd], ⟨_, HW.out.symm⟩, HBB.out.2 hb'⟩⟩)
      · have hc1 : decide ((i : Int) + 1 < (m : Int)) = false := decide_eq_false (by omega)
        have hE : s.data.toList.drop (i + 1) = [] := List.drop_eq_nil_of_le (by have := HSZ.out; omega)
        have hE2 : s.data.toList.drop (i + 2) = [] := List.drop_eq_nil_of_le (by have := HSZ.out; omega)
        obtain ⟨wd, hwd⟩ : ∃ wd : Wd16, (b0.toNat : Int) * 256 = wd.1 := ⟨⟨(b0.toNat : Int) * 256, by omega, by omega⟩, rfl⟩
        have HW := Hi (show wdsL s.data.toList = (pre ++ [wd]).map (·.1) ++ wdsL (s.data.toList.drop (i + 2)) by rw [HP.out, HD.out, hE, hE2]; simp [wdsL, hwd])
        have HPL := Hi (show pre.length < N by have h1 := HN.out; rw [HP.out, HD.out, hE, List.length_append, List.length_map] at h1; simp only [wdsL, List.length_cons] at h1; omega)
        have Y := Hi (HY.out pre wd wr HJs.out HPL.out)
        unfold encW at Y
        clear hg0 hi0 hE hE2
        obtain ⟨fn, tmps, assign, body, hy, hR⟩ := Y.out
        gi_wp2_with (refine hR.mono ?_; intro e W3 h3; obtain ⟨bb, rfl, hbb⟩ := yield_ways2 h3; have HBB := Hi hbb; clear h3 hbb hy hR)
        all_goals first
          | (have hb0 : (!bb) = false := by assumption
             have hb : bb = true := by simpa using hb0
             go_roundw
             case rel => exact ⟨pre ++ [wd], i + 2, by go_num, by omega, HW.out, (HBB.out.1 hb).1, HK.out.trans (HBB.out.1 hb).2⟩
             case measure => simp [intOf]; omega)
          | (have hb0 : (!bb) = true := by assumption
             have hb' : bb = false := by simpa using hb0
             refine bodyPost_ret (results_none rfl _ _ _) rfl ?_
             exact ⟨⟨_, rfl⟩, .inr ⟨pre ++ [wd], ⟨_, HW.out.symm⟩, HBB.out.2 hb'⟩⟩)
    · have hdl : decide ((i : Int) < (m : Int)) = false := decide_eq_false (by omega)
      have hE : s.data.toList.drop i = [] := List.drop_eq_nil_of_le (by have := HSZ.out; omega)
      gi_wp2
      go_end0
      exact ⟨⟨_, rfl⟩, .inl ⟨pre, by rw [HP.out, hE]; simp [wdsL], HJs.out⟩⟩
theorem words_stops (n : Nat) (hn : 1 ≤ n) (N b : Nat) (s : ByteArray) (hs : s.size ≤ 1000000) (hN : (wdsL s.data.toList).length ≤ N) (D DA : Nat → Prop) (w : World) (hA : Own w DA w [blkR b (.cells #[.string s] 9)]) (hd : ∀ b, DA b → ¬ D b) :
  SeqStopsK Fence.wide n Tryz.prog 189 #[.pointer (some ⟨b, 0, none⟩)] encW (kpO D w) (fun xs : List Wd16 => xs.map (·.1) = wdsL s.data.toList) (fun pre => pre.map (·.1) <+: wdsL s.data.toList) N w := by
 intro l' J Jx W hW hJ hJx hY h0
 refine words_in n hn l' N b s hs hN J Jx D w W hW hJ hY (fun W' hu => ?_) h0
 have h2 := hA.apart hu (fun b hb hD hG => hG.elim (hd b hD) (fun h => by omega))
 exact h2.cell 0 rfl 0 rfl
def ckFold (n : Nat) : Nat := if h : n ≤ 65535 then n else ckFold (n % 65536 + n / 65536)
termination_by n
decreasing_by omega
theorem ckFold_small {n : Nat} (h : n ≤ 65535) : ckFold n = n := by rw [ckFold, dif_pos h]
theorem ckFold_step {n : Nat} (h : ¬ n ≤ 65535) : ckFold n = ckFold (n % 65536 + n / 65536) := by rw [ckFold, dif_neg h]
theorem ckFold_le (n : Nat) : ckFold n ≤ 65535 := by
 induction n using Nat.strongRecOn with
 | ind n ih =>
  by_cases h : n ≤ 65535
  ·
   rw [ckFold_small h]; exact h
  ·
   rw [ckFold_step h]; exact ih _ (by omega)
def ckF (s : ByteArray) : Int := 65535 - (ckFold (wdsL s.data.toList).sum.toNat : Int)
theorem ckF_range (s : ByteArray) : 0 ≤ ckF s ∧ ckF s ≤ 65535 := by
 have := ckFold_le (wdsL s.data.toList).sum.toNat
 unfold ckF; omega
def ckI (bs : Nat) (pre : List Wd16) (L : List Res) : Prop := L = [blkR bs (.cells #[.int .i64 (pre.map (·.1)).sum] 3)]
def ckX (c : Code) (pre : List Wd16) (L : List Res) : Prop := False
theorem ckI_still {B bs : Nat} : ∀ pre L, ckI bs pre L → stills B L := fun pre L h => by rw [h]; exact stills_cons (still_blk _ rfl) stills_nil
theorem ckX_still {B : Nat} : ∀ c pre L, ckX c pre L → stills B L := fun c pre L h => h.elim
theorem wd_sum : ∀ pre : List Wd16, 0 ≤ (pre.map (·.1)).sum ∧ (pre.map (·.1)).sum ≤ (pre.length : Int) * 65535
 | [] => by simp
 | ⟨x, h1, h2⟩ :: pre => by
  have ih := wd_sum pre
  simp only [List.map_cons, List.sum_cons, List.length_cons]
  have : (((pre.length + 1 : Nat) : Int)) * 65535 = (pre.length : Int) * 65535 + 65535 := by omega
  omega
theorem wd_all : ∀ l : List UInt8, ∃ ys : List Wd16, ys.map (·.1) = wdsL l
 | [] => ⟨[], rfl⟩
 | [a] => ⟨[⟨(a.toNat : Int) * 256, by omega, by have := a.toNat_lt; omega⟩], rfl⟩
 | a :: b :: r => by
  obtain ⟨ys, h⟩ := wd_all r
  exact ⟨⟨(a.toNat : Int) * 256 + b.toNat, by omega, by have := a.toNat_lt; have := b.toNat_lt; omega⟩ :: ys, by simp [wdsL, h]⟩
def cellInt (w : World) (b : Nat) : Nat := match w.cell? ⟨b, 0, none⟩ with
 | some (.int _ p) => p.toNat
 | _ => 0
theorem cellInt_is {w : World} {b : Nat} {m : Int} (h : w.cell? ⟨b, 0, none⟩ = some (.int .i64 m)) : cellInt w b = m.toNat := by
 unfold cellInt; rw [h]
theorem cksum_r (s : ByteArray) (hs : s.size ≤ 100000) (w : World) : Calls Tryz.prog 123 #[.string s] w fun e w' => e = .returned (.int .i64 (ckF s)) ∧ Below w.heap.size w w' := by
 refine (callsIn_wide (n := 5)).1 ?_
 obtain ⟨n, hn⟩ : ∃ n : Nat, n = 5 := ⟨_, rfl⟩
 rw [← hn]
 have h1 : 1 ≤ n := by omega
 have HNN := Hi hn
 have HO := Hi (Own.nil w none0)
 have HSZ := Hi (Lib.size_eq s)
 have HS := Hi hs
 clear hn hs
 obtain ⟨x1, hx1, bs, hbs, hO⟩ := HO.out.allocE (.cells #[.int .i64 0] 3)
 replace HO := Hi (show Own w none0 x1 [blkR bs (.cells #[.int .i64 0] 3)] from hO)
 clear hO
 have ⟨z0_0, y0_0⟩ : x1.cell? _ = some (.int .i64 0) ∧ _ := HO.out.cf 0 rfl 0 rfl
 obtain ⟨x2, hx2, hO⟩ := HO.out.setE 0 rfl 0 (.int .i64 0)
 replace HO := Hi hO
 clear hO
 refine callsIn_of_wp_marks Tryz.func123 rfl trivial ?_ rfl
 simp only [Tryz.ntmps123, List.size_toArray, List.length_cons, List.length_nil, Nat.reduceAdd, Nat.reduceSub, Array.replicate_succ, Array.replicate_zero, List.push_toArray, List.append_toArray, List.nil_append, List.cons_append]
 gi_wp2_with (refine ⟨trivial, ?_⟩; gi_at_call 159; refine (callsIn_wide.2 (words_any s _)).mono ?_; rintro e xw ⟨rfl, rfl⟩)
 obtain ⟨x9, hx9⟩ : ∃ y, x2.alloc (.cells #[.string s] 9) = y := ⟨_, rfl⟩
 rw [hx9]
 obtain ⟨bi, hbi⟩ : ∃ y, x2.heap.size = y := ⟨_, rfl⟩
 have hO := HO.out.alloc (.cells #[.string s] 9)
 rw [hx9, hbi] at hO
 replace HO := Hi (show Own _ _ _ [_, blkR bi (.cells #[.string s] 9)] from hO)
 rw [hbi]
 clear hO hx9 hbi hx1 hbs z0_0 y0_0 hx2
 have hp := HO.out.pick [1, 0] (by decide) (L' := [blkR bi (.cells #[.string s] 9)] ++ [blkR bs (.cells #[.int .i64 0] 3)]) (fun k R hk => by
  match k, hk with
  | 0, hk => exact ⟨1, rfl, hk⟩
  | 1, hk => exact ⟨0, rfl, hk⟩)
 obtain ⟨DA, DB, s1, s2, s3, s4, s5, s6⟩ := Own.split (A := [blkR bi (.cells #[.string s] 9)]) (B := [blkR bs (.cells #[.int .i64 0] 3)]) hp
 clear hp HO
 refine wpIn_rangeO (encs := encW) (D := DB) h1 (gf := 189) (lb := #[.pointer (some ⟨bi, 0, none⟩)]) rfl (enters_of Tryz.func189 (by kernel_rfl) rfl)
  (words_stops (n - 1) (by have := HNN.out; omega) (wdsL s.data.toList).length bi s (by have := HS.out; omega) (Nat.le_refl _) DB DA x9 s1 s3) (fun _ => rfl)
  (ckI bs) ckX ckI_still ckX_still s2 (by unfold ckI; rfl)
  (fun x a' Lx => Lx = [] ∧ a' = { tmps := #[.string s, undef, .int .i64 0, .pointer (some ⟨bs, 0, none⟩), .int .i64 x.1, .string s, .func (.func 189) #[] #[.pointer (some ⟨bi, 0, none⟩)], .int .i64 x.1, undef, undef, undef, undef, undef, undef, undef, undef, undef, undef, undef, undef], defers := [] })
  ?assign ?body ?done ?stop
 case assign =>
  intro l pre x W D' L K hi ho hK
  gi_wp2
  exact hK _ _ [] ⟨rfl, rfl⟩ (by simpa using ho)
 case body =>
  rintro l pre ⟨x, hx1, hx2⟩ a' W D' L Lx rfl ⟨rfl, rfl⟩ hlt hup ho
  have HO := Hi (show Own W D' W [blkR bs (.cells #[.int .i64 (pre.map (·.1)).sum] 3)] from ho)
  clear ho
  have hsum := wd_sum pre
  have hln := wdsL_len s.data.toList
  have hpl : (pre.length : Int) ≤ 100000 := by have h1 := HS.out; have h2 := HSZ.out; omega
  obtain ⟨hs1, hs2⟩ := hsum
  have HI := Hi (show ckI bs (pre ++ [⟨x, hx1, hx2⟩]) [blkR bs (.cells #[.int .i64 ((pre.map (·.1)).sum + x)] 3)] by unfold ckI; simp)
  have hs3 : (pre.map (·.1)).sum ≤ 6553500000 := by omega
  generalize (pre.map (·.1)).sum = sm at *
  clear hs2 hln hpl
  have ⟨c0, f0⟩ : W.cell? _ = some (.int .i64 sm) ∧ _ := HO.out.cf 0 rfl 0 rfl
  have hO2 := Own.setCell HO.out 0 rfl 0 (.int .i64 (sm + x))
  gi_wp2
  exact ⟨_, HI.out, hO2⟩
 case done =>
  rintro k xs W L hxs hi ho
  unfold ckI at hi
  rw [hxs] at hi
  subst hi
  have hsum : ∃ ys : List Wd16, ys.map (·.1) = wdsL s.data.toList := wd_all _
  obtain ⟨ys, hys⟩ := hsum
  have hb := wd_sum ys
  rw [hys] at hb
  have hyl : ys.length ≤ s.data.toList.length := by have := wdsL_len s.data.toList; rw [← hys, List.length_map] at this; exact this
  obtain ⟨sm, hsm⟩ : ∃ m : Nat, (wdsL s.data.toList).sum = (m : Int) := ⟨(wdsL s.data.toList).sum.toNat, by omega⟩
  have hCK : ckF s = 65535 - (ckFold sm : Int) := by unfold ckF; rw [hsm]; rfl
  have hsb : sm ≤ 6553500000 := by have h1 := HS.out; have h2 := HSZ.out; omega
  rw [hsm] at ho
  have HO := Hi (show Own x9 DB W [blkR k (.deferred (some [])), blkR bs (.cells #[.int .i64 (sm : Int)] 3)] from ho)
  have HCK := Hi hCK
  clear ho hCK hsm hb hys hyl
  gi_wp2
  gi_loopw [] (fun wr => ∃ q : Nat, q ≤ 6553500000 ∧ ckFold q = ckFold sm ∧ Own x9 DB wr [blkR k (.deferred (some [])), blkR bs (.cells #[.int .i64 (q : Int)] 3)]) (fun wr => cellInt wr bs)
  case atStart => exact ⟨sm, hsb, rfl, HO.out⟩
  case round =>
   obtain ⟨q, hq, hf, hO⟩ := hrel
   replace HO := Hi hO
   have HF := Hi hf
   clear hO hf
   have ⟨c0, f0⟩ : wr.cell? _ = some (.int .i64 (q : Int)) ∧ _ := HO.out.cf 1 rfl 0 rfl
   have hci := cellInt_is c0
   by_cases hlt : q ≤ 65535
   ·
    have hdl : decide ((65535 : Int) < (q : Int)) = false := decide_eq_false (by omega)
    have hdl2 : decide ((q : Int) > 65535) = false := decide_eq_false (by omega)
    have HR := Hi (show (65535 : Int) - (q : Int) = ckF s by rw [HCK.out, ← HF.out, ckFold_small hlt])
    gi_wp2
    refine ⟨by simp, .inl ⟨_, _, rfl, run_takeDeferred (Own.blk HO.out 0 rfl), ?_⟩⟩
    have hF := (s6 _ _ (Own.put HO.out 0 rfl (.deferred none)))
    exact ⟨_, results_tmp rfl _ _ _, by rw [← HR.out]; rfl, hF.below⟩
   ·
    have hdl : decide ((65535 : Int) < (q : Int)) = true := decide_eq_true (by omega)
    have hdl2 : decide ((q : Int) > 65535) = true := decide_eq_true (by omega)
    have HR := Hi (show ckFold (q % 65536 + q / 65536) = ckFold sm by rw [← ckFold_step hlt, HF.out])
    have hO2 := Own.setCell HO.out 1 rfl 0 (.int .i64 ((q % 65536 + q / 65536 : Nat) : Int))
    have c9 := hO2.cell 1 rfl 0 rfl
    have hci2 := cellInt_is c9
    gi_wp2
    have hcast : ((q % 65536 + q / 65536 : Nat) : Int) = (q : Int) % 65536 + (q : Int) / 65536 := by omega
    rw [← hcast]
    exact ⟨⟨q % 65536 + q / 65536, by omega, HR.out, hO2⟩, by rw [hci, hci2]; omega⟩
 case stop =>
  rintro k c pre W L hpre hf ho
  exact hf.elim
end
open Go.Shelf Go.RowKit
def joinL_ren : Go.Shelf.Ren := ⟨fun | 156 => 124 | 165 => 160 | 166 => 161 | 169 => 136 | 240 => 190 | 241 => 191 | 276 => 212 | 277 => 213 | n => n, fun | 31 => 63 | 9 => 9 | 3 => 3 | 4 => 4 | 0 => 0 | 20 => 20 | 72 => 222 | 76 => 259 | 70 => 219 | 37 => 220 | 75 => 165 | 127 => 263 | 164 => 242 | 5 => 5 | 80 => 138 | n => n, fun | n => n⟩
theorem joinL : Go.Proofs.Lays.n156 Tryz.prog joinL_ren := {
 mixed := by kernel_rfl
 f156 := Tryz.func124.trans (congrArg some (by kernel_rfl))
 f165 := Tryz.func160.trans (congrArg some (by kernel_rfl))
 f166 := Tryz.func161.trans (congrArg some (by kernel_rfl))
 f169 := Tryz.func136.trans (congrArg some (by kernel_rfl))
 f240 := Tryz.func190.trans (congrArg some (by kernel_rfl))
 f241 := Tryz.func191.trans (congrArg some (by kernel_rfl))
 f276 := Tryz.func212.trans (congrArg some (by kernel_rfl))
 f277 := Tryz.func213.trans (congrArg some (by kernel_rfl))
 t0 := Tryz.underlying0
 a0 := Tryz.isAgg0
 z0 := Tryz.sizeOf0
 v0 := Tryz.zeroValue0
 t3 := Tryz.underlying3
 a3 := Tryz.isAgg3
 z3 := Tryz.sizeOf3
 v3 := Tryz.zeroValue3
 t4 := Tryz.underlying4
 a4 := Tryz.isAgg4
 z4 := Tryz.sizeOf4
 v4 := Tryz.zeroValue4
 t9 := Tryz.underlying9
 a9 := Tryz.isAgg9
 z9 := Tryz.sizeOf9
 v9 := Tryz.zeroValue9
 t20 := Tryz.underlying20
 a20 := Tryz.isAgg20
 z20 := Tryz.sizeOf20
 v20 := Tryz.zeroValue20
 t31 := Tryz.underlying63
 a31 := Tryz.isAgg63
 z31 := Tryz.sizeOf63
 v31 := Tryz.zeroValue63
 t37 := Tryz.underlying220
 a37 := Tryz.isAgg220
 z37 := Tryz.sizeOf220
 v37 := Tryz.zeroValue220
 t70 := Tryz.underlying219
 a70 := Tryz.isAgg219
 z70 := Tryz.sizeOf219
 v70 := Tryz.zeroValue219
 t72 := Tryz.underlying222
 a72 := Tryz.isAgg222
 z72 := Tryz.sizeOf222
 v72 := Tryz.zeroValue222
 t75 := Tryz.underlying165
 a75 := Tryz.isAgg165
 z75 := Tryz.sizeOf165
 v75 := Tryz.zeroValue165
 t76 := Tryz.underlying259
 a76 := Tryz.isAgg259
 z76 := Tryz.sizeOf259
 v76 := Tryz.zeroValue259
 t127 := Tryz.underlying263
 a127 := Tryz.isAgg263
 z127 := Tryz.sizeOf263
 v127 := Tryz.zeroValue263
 t164 := Tryz.underlying242
 a164 := Tryz.isAgg242
 z164 := Tryz.sizeOf242
 v164 := Tryz.zeroValue242 }
theorem joinX : Builder.Extra Tryz.prog joinL_ren := {
 sizeBuilder := by kernel_rfl
 liesBuilder := by kernel_rfl
 t5 := Tryz.underlying5
 a5 := Tryz.isAgg5
 z5 := Tryz.sizeOf5
 v5 := Tryz.zeroValue5
 infoByte := by kernel_rfl
 cellsByte := by kernel_rfl
 sizeByte := by kernel_rfl
 neB5 := by decide }
theorem join_any (bk o c : Nat) (xs : List ByteArray) (sep : ByteArray) (w : World) (hcells : ∀ (j : Nat) x, xs[j]? = some x → w.cell? ⟨bk, o + j, none⟩ = some (.string x)) (hbk : bk < w.heap.size) (hN : xs.length ≤ 140737488355328) (hcap : xs.length ≤ c) (hlen : (Lib.join (xs.map (·.data.toList)) sep.data.toList).length ≤ 140737488355328) :
  Calls Tryz.prog 124 #[.slice (some ⟨bk, o, none⟩) xs.length c, .string sep] w fun e w' => e = .returned (.string ⟨(Lib.join (xs.map (·.data.toList)) sep.data.toList).toArray⟩) ∧ Below w.heap.size w w' := Any.strings_Join joinL joinX bk o c xs sep w hcells hbk hN hcap hlen
section
open Go.Sort

theorem results_cc {fn : Func} {p q : Tmp} {ty ty2 : TypeId} (h : fn.results = #[.cell p ty, .cell q ty2]) (tmps : Array Value) (P : Program) (w : World) {u1 u2 : Value} {a1 a2 : Addr} (hp : tmps.getD p undef = .pointer (some a1)) (hq : tmps.getD q undef = .pointer (some a2)) (hl1 : (loadVar ty a1).run P w = .ok u1 w) (hl2 : (loadVar ty2 a2).run P w = .ok u2 w) : (results fn tmps).run P w = .ok (.tuple #[u1, u2]) w := by
 have hp' : tmps[p]?.getD undef = .pointer (some a1) := by simpa using hp
 have hq' : tmps[q]?.getD undef = .pointer (some a2) := by simpa using hq
 simp only [results, h]
 simp [Sem.run_bind, Result.andThen, hp', hq', asAddr, hl1, hl2]
theorem results_rc {fn : Func} {p q : Tmp} {ty ty2 : TypeId} (h : fn.results = #[.cell p ty, .cell q ty2]) (tmps : Array Value) (P : Program) (w : World) (g : Nat) (t : TypeId) (cs : Array Value) (fr : Nat × Nat) (d : TypeDesc)
  (hp : tmps.getD p undef = .pointer (some ⟨g, 0, none⟩)) (hg : w.heap[g]? = some (.cells cs t fr))
  (hu : P.underlying ty = some d) (hd : (match d with | .struct _ | .array _ _ => true | _ => false) = true) (hi : (P.info? ty).map (·.size) = some cs.size)
  {u : Value} {a2 : Addr} (hq : tmps.getD q undef = .pointer (some a2)) (hl : (loadVar ty2 a2).run P w = .ok u w) :
  (results fn tmps).run P w = .ok (.tuple #[.agg cs, u]) w := by
 have hp' : tmps[p]?.getD undef = .pointer (some ⟨g, 0, none⟩) := by simpa using hp
 have hq' : tmps[q]?.getD undef = .pointer (some a2) := by simpa using hq
 simp only [results, h]
 simp [Sem.run_bind, Result.andThen, hp', hq', asAddr, run_loadVar_row w g t ty cs fr d hg hu (by revert hd; cases d <;> exact id) hi, hl]
theorem idleEncode (p q : Addr) (w : World) :
  CallsD Tryz.prog 39 #[.pointer (some p), .pointer (some q)] .returning w fun e u' w' => e = .returned (.tuple #[]) ∧ u' = .returning ∧ w' = w := by
 refine callsD_of_wpS Tryz.func39 rfl fun c₀ cs hu => ?_
 apply wpS_seq
 apply wpS_region
 simp [wpOpsS, go_sem, recoverD, hu, Tryz.ntmps39, Exit.thenS]
 apply wpS_seq
 apply wpS_region
 simp [wpOpsS, go_sem, Exit.thenS]
 refine wpS_cond (t := false) (by simp [Act.eval, Array.replicate]) ?_
 simp only [Bool.false_eq_true, if_false]
 refine wpS_of_wp (wp_skip ?_)
 cases c₀
 simp_all [bodyPostS, results, Tryz.results39]
theorem idleDecode (p q : Addr) (w : World) :
  CallsD Tryz.prog 41 #[.pointer (some p), .pointer (some q)] .returning w fun e u' w' => e = .returned (.tuple #[]) ∧ u' = .returning ∧ w' = w := by
 refine callsD_of_wpS Tryz.func41 rfl fun c₀ cs hu => ?_
 apply wpS_seq
 apply wpS_region
 simp [wpOpsS, go_sem, recoverD, hu, Tryz.ntmps41, Exit.thenS]
 apply wpS_seq
 apply wpS_region
 simp [wpOpsS, go_sem, Exit.thenS]
 refine wpS_cond (t := false) (by simp [Act.eval, Array.replicate]) ?_
 simp only [Bool.false_eq_true, if_false]
 refine wpS_of_wp (wp_skip ?_)
 cases c₀
 simp_all [bodyPostS, results, Tryz.results41]
attribute [local go_sem] Oper.semAt_some
theorem uport_r (n : Int) (w : World) (h0 : 1 ≤ n) (h1 : n ≤ 65535) : Calls Tryz.prog 121 #[.int .i64 n] w fun e w' => e = .returned (.bool true) ∧ w = w' := by
 have d1 : decide (1 ≤ n) = true := decide_eq_true h0
 have d2 : decide (n ≤ 65535) = true := decide_eq_true h1
 go_enter Tryz.func121, Tryz.ntmps121
 go_wp2
 go_ret
 simp [*]
theorem uadr_r (n : Int) (w : World) (h0 : 0 ≤ n) (h1 : n ≤ 4294967295) : Calls Tryz.prog 72 #[.int .i64 n] w fun e w' => e = .returned (.bool true) ∧ w = w' := by
 have d1 : decide (n ≥ 0) = true := decide_eq_true h0
 have d2 : decide (n ≤ 4294967295) = true := decide_eq_true h1
 have d3 : decide (0 ≤ n) = true := decide_eq_true h0
 go_enter Tryz.func72, Tryz.ntmps72
 go_wp2
 go_ret
 simp [*]
theorem unum_r (n b : Int) (s : ByteArray) (hp : ∀ w, Calls Tryz.prog 122 #[.int .i64 n, .int .i64 b] w fun e w' => e = .returned (.tuple #[.string s, .int .i64 0]) ∧ Below w.heap.size w w') (w : World) : Calls Tryz.prog 84 #[.int .i64 n, .int .i64 b] w fun e w' => e = .returned (.string s) ∧ Below w.heap.size w w' := by
 go_enter Tryz.func84, Tryz.ntmps84
 go_wp2_with fail
 refine (hp _).mono ?_
 rintro e x1 ⟨rfl, hb⟩
 go_wp2
 go_ret
 exact ⟨rfl, hb⟩
theorem uget_r (s : ByteArray) (p : Nat) (m : Int) (hg : ∀ w, Calls Tryz.prog 125 #[.string s, .int .i64 p, .int .i64 2] w fun e w' => e = .returned (.tuple #[.int .i64 m, .int .i64 0]) ∧ Below w.heap.size w w') (w : World) : Calls Tryz.prog 86 #[.string s, .int .i64 p] w fun e w' => e = .returned (.int .i64 m) ∧ Below w.heap.size w w' := by
 go_enter Tryz.func86, Tryz.ntmps86
 go_wp2_with fail
 refine (hg _).mono ?_
 rintro e x1 ⟨rfl, hb⟩
 go_wp2
 go_ret
 exact ⟨rfl, hb⟩
def sblkN (B n : Nat) (o : Obj) : Pred := fun v w => ∃ b, v = .slice (some ⟨b, 0, none⟩) n n ∧ B ≤ b ∧ w.heap[b]? = some o
theorem sblkN_lasts (B n : Nat) (o : Obj) : Lasts (sblkN B n o) := by
 rintro v w w' ⟨b, rfl, hB, hb⟩ hbl
 exact ⟨b, rfl, hB, (hbl.block b (Array.getElem?_eq_some_iff.1 hb).1).trans hb⟩
theorem run_bs7 (a b c d e f g : ByteArray) (w : World) : (Instr.buildSlice 63 7 #[(0, .string a), (1, .string b), (2, .string c), (3, .string d), (4, .string e), (5, .string f), (6, .string g)]).run Tryz.prog w = .ok (.slice (some ⟨w.heap.size, 0, none⟩) 7 7) (w.alloc (.cells #[.string a, .string b, .string c, .string d, .string e, .string f, .string g] 9)) := by kernel_rfl
abbrev udA (fp tp : Int) (s : ByteArray) : Array Value := #[.int .i64 fp, .int .i64 tp, .string s]
theorem uvalid_r (fp tp : Int) (s : ByteArray) (w : World) (p0 : 1 ≤ fp) (p1 : fp ≤ 65535) (p2 : 1 ≤ tp) (p3 : tp ≤ 65535) (hs : s.size ≤ 2000) : Calls Tryz.prog 83 #[.agg (udA fp tp s)] w fun e w' => e = .returned (.bool true) ∧ Below w.heap.size w w' := by
 have HO := Hi (Own.nil w none0)
 have P1 := Hi (fun w => uport_r fp w p0 p1)
 have P2 := Hi (fun w => uport_r tp w p2 p3)
 have d1 : decide ((s.size : Int) ≤ 2000) = true := decide_eq_true (by omega)
 clear hs
 obtain ⟨x1, hx1, bu, hbu, hO⟩ := HO.out.allocE (.cells #[.int .i64 fp, .int .i64 tp, .string s] 41)
 replace HO := Hi (show Own w none0 x1 [blkR bu (.cells #[.int .i64 fp, .int .i64 tp, .string s] 41)] from hO)
 clear hO
 obtain ⟨z0_0, z0_1, z0_2⟩ := HO.out.c3 0 rfl
 go_enter Tryz.func83, Tryz.ntmps83
 go_wp2_with fail
 refine (P1.out _).mono ?_
 rintro e xp ⟨rfl, rfl⟩
 go_wp2_with fail
 refine (P2.out _).mono ?_
 rintro e xp ⟨rfl, rfl⟩
 go_wp2
 go_ret
 exact ⟨by simp [*], HO.out.below⟩
theorem uck_r (bk c : Nat) (xs : List ByteArray) (w : World) (hcells : ∀ (j : Nat) x, xs[j]? = some x → w.cell? ⟨bk, 0 + j, none⟩ = some (.string x)) (hbk : bk < w.heap.size) (hn : xs.length ≤ 100) (hcap : xs.length ≤ c) (j : ByteArray) (hj : ⟨(Lib.join (xs.map (·.data.toList)) (⟨#[]⟩ : ByteArray).data.toList).toArray⟩ = j) (hlen : j.size ≤ 100000) :
  Calls Tryz.prog 85 #[.slice (some ⟨bk, 0, none⟩) xs.length c] w fun e w' => e = .returned (.int .i64 (ckF j)) ∧ Below w.heap.size w w' := by
 have hl2 : (Lib.join (xs.map (·.data.toList)) (⟨#[]⟩ : ByteArray).data.toList).length ≤ 140737488355328 := by
  have : j.size = (Lib.join (xs.map (·.data.toList)) (⟨#[]⟩ : ByteArray).data.toList).length := by rw [← hj]; simp [ByteArray.size]
  omega
 have HJ := Hi (fun w h => join_any bk 0 c xs ⟨#[]⟩ w h)
 have HC := Hi (fun w => cksum_r j hlen w)
 have HX := Hi (And.intro hcells hbk)
 obtain ⟨n, hnn⟩ : ∃ n, xs.length = n := ⟨_, rfl⟩
 have HN := Hi hnn
 rw [hnn] at HJ hn hcap ⊢
 have HB := Hi (And.intro hn hcap)
 clear hcells hbk hnn
 go_enter Tryz.func85, Tryz.ntmps85
 go_wp2_with fail
 refine (HJ.out _ HX.out.1 HX.out.2 (by have := HB.out.1; omega) HB.out.2 hl2).mono ?_
 rw [hj]
 rintro e x1 ⟨rfl, hb1⟩
 go_wp2_with fail
 refine (HC.out _).mono ?_
 rintro e x2 ⟨rfl, hb2⟩
 go_wp2
 go_ret
 exact ⟨rfl, hb1.trans (hb2.mono hb1.size)⟩
def bS (k : Nat) (n : Int) : ByteArray := ⟨(beN k n).toArray⟩
theorem bS_sz (k : Nat) (n : Int) : (bS k n).size = k := by show (beN k n).toArray.size = k; simp [beN_len]
def enU (fr to : Int) : ByteArray := bS 4 fr ++ bS 4 to
def hdU (fp tp : Int) (s : ByteArray) : ByteArray := bS 2 fp ++ bS 2 tp ++ bS 2 (8 + (s.size : Int))
def ptU (fr to fp tp : Int) (s : ByteArray) : List ByteArray := [enU fr to, bS 1 0, bS 1 17, bS 2 (8 + (s.size : Int)), hdU fp tp s, bS 2 0, s]
def jnU (fr to fp tp : Int) (s : ByteArray) : ByteArray := ⟨(Lib.join ((ptU fr to fp tp s).map (·.data.toList)) (⟨#[]⟩ : ByteArray).data.toList).toArray⟩
def encU (fr to fp tp : Int) (s : ByteArray) : ByteArray := hdU fp tp s ++ bS 2 (ckF (jnU fr to fp tp s)) ++ s
theorem ba_len (s : ByteArray) : s.data.toList.length = s.size := by show _ = s.data.size; exact Array.length_toList
theorem jnU_sz (fr to fp tp : Int) (s : ByteArray) : (jnU fr to fp tp s).size = 20 + s.size := by
 unfold jnU ptU
 show (Lib.join _ _).toArray.size = _
 simp only [List.size_toArray, List.map_cons, List.map_nil, Lib.join_cons, Lib.joinTail, List.flatten_cons, List.flatten_nil, List.length_append, ba_len, enU, hdU, ByteArray.size_append, bS_sz, List.length_nil]
 show 4 + 4 + (0 + 1 + (0 + 1 + (0 + 2 + (0 + (2 + 2 + 2) + (0 + 2 + (0 + s.size + 0)))))) = _
 omega
theorem uencode_r (fr to fp tp : Int) (s : ByteArray) (w : World) (f0 : 1 ≤ fr) (f1 : fr ≤ 4294967295) (t0 : 1 ≤ to) (t1 : to ≤ 4294967295) (p0 : 1 ≤ fp) (p1 : fp ≤ 65535) (p2 : 1 ≤ tp) (p3 : tp ≤ 65535) (hs : s.size ≤ 2000) :
  Calls Tryz.prog 40 #[.int .i64 fr, .int .i64 to, .agg (udA fp tp s)] w fun e w' => e = .returned (.string (encU fr to fp tp s)) ∧ Below w.heap.size w w' := by
 have HO := Hi (Own.nil w none0)
 have HV := Hi (fun w => uvalid_r fp tp s w p0 p1 p2 p3 hs)
 have HA1 := Hi (fun w => uadr_r fr w (by omega) f1)
 have HA2 := Hi (fun w => uadr_r to w (by omega) t1)
 have n1 : (fr == 0) = false := by simp; omega
 have n2 : (to == 0) = false := by simp; omega
 have n3 : decide (fr = 0) = false := decide_eq_false (by omega)
 have n4 : decide (to = 0) = false := decide_eq_false (by omega)
 have hr := ckF_range (jnU fr to fp tp s)
 obtain ⟨sm, hsm⟩ : ∃ y, ckF (jnU fr to fp tp s) = y := ⟨_, rfl⟩
 rw [hsm] at hr
 obtain ⟨m, hm⟩ : ∃ m, s.size = m := ⟨_, rfl⟩
 have P1 := Hi (fun w => unum_r (8 + (m : Int)) 2 (bS 2 (8 + (m : Int))) (fun w => put_2 _ w (by omega) (by omega)) w)
 have P2 := Hi (fun w => unum_r fr 4 (bS 4 fr) (fun w => put_4 _ w (by omega) (by omega)) w)
 have P3 := Hi (fun w => unum_r to 4 (bS 4 to) (fun w => put_4 _ w (by omega) (by omega)) w)
 have P4 := Hi (fun w => unum_r fp 2 (bS 2 fp) (fun w => put_2 _ w (by omega) (by omega)) w)
 have P5 := Hi (fun w => unum_r tp 2 (bS 2 tp) (fun w => put_2 _ w (by omega) (by omega)) w)
 have P6 := Hi (fun w => unum_r 0 1 (bS 1 0) (fun w => put_1 _ w (by omega) (by omega)) w)
 have P7 := Hi (fun w => unum_r 17 1 (bS 1 17) (fun w => put_1 _ w (by omega) (by omega)) w)
 have P8 := Hi (fun w => unum_r 0 2 (bS 2 0) (fun w => put_2 _ w (by omega) (by omega)) w)
 have P9 := Hi (fun w => unum_r sm 2 (bS 2 sm) (fun w => put_2 _ w (by omega) (by omega)) w)
 have HQ := Hi (show encU fr to fp tp s = bS 2 fp ++ bS 2 tp ++ bS 2 (8 + (m : Int)) ++ bS 2 sm ++ s by unfold encU hdU; rw [hsm, hm])
 have HJ := Hi (fun (bk : Nat) (w : World) (h : w.heap[bk]? = some (.cells #[.string (bS 4 fr ++ bS 4 to), .string (bS 1 0), .string (bS 1 17), .string (bS 2 (8 + (m : Int))), .string (bS 2 fp ++ bS 2 tp ++ bS 2 (8 + (m : Int))), .string (bS 2 0), .string s] 9)) => hsm ▸ uck_r bk 7 (ptU fr to fp tp s) w (fun j x hx => by
  rw [← hm] at h
  simp only [World.cell?, Nat.zero_add, h]
  have : j < 7 := by rcases Nat.lt_or_ge j 7 with h | h; exact h; rw [List.getElem?_eq_none h] at hx; cases hx
  match j, this with
  | 0, _ | 1, _ | 2, _ | 3, _ | 4, _ | 5, _ | 6, _ => cases hx; rfl) ((Array.getElem?_eq_some_iff.1 h).1) (by show 7 ≤ 100; decide) (Nat.le_refl 7) _ rfl (by show (jnU fr to fp tp s).size ≤ 100000; rw [jnU_sz]; omega))
 have s1 := Hi (bS_sz 2 (8 + (m : Int)))
 have s2 := Hi (bS_sz 4 fr)
 have s3 := Hi (bS_sz 4 to)
 have s4 := Hi (bS_sz 2 fp)
 have s5 := Hi (bS_sz 2 tp)
 have s9 := Hi (bS_sz 2 sm)
 generalize bS 2 (8 + (m : Int)) = a1 at *
 generalize bS 4 fr = a2 at *
 generalize bS 4 to = a3 at *
 generalize bS 2 fp = a4 at *
 generalize bS 2 tp = a5 at *
 generalize bS 1 0 = a6 at *
 generalize bS 1 17 = a7 at *
 generalize bS 2 0 = a8 at *
 generalize bS 2 sm = a9 at *
 generalize encU fr to fp tp s = en at *
 have u1 : a1.size = 2 := s1.out
 have u2 : a2.size = 4 := s2.out
 have u3 : a3.size = 4 := s3.out
 have u4 : a4.size = 2 := s4.out
 have u5 : a5.size = 2 := s5.out
 have u9 : a9.size = 2 := s9.out
 have U3 := Hi hm
 have U4 := Hi (show m ≤ 2000 by omega)
 clear hsm hr s1 s2 s3 s4 s5 s9 hs hm f0 f1 t0 t1 p0 p1 p2 p3
 obtain ⟨x1, hx1, bu, hbu, hO⟩ := HO.out.allocE (.cells #[.int .i64 fp, .int .i64 tp, .string s] 41)
 replace HO := Hi (show Own w none0 x1 [blkR bu (.cells #[.int .i64 fp, .int .i64 tp, .string s] 41)] from hO)
 clear hO
 obtain ⟨z0_0, z0_1, z0_2⟩ := HO.out.c3 0 rfl
 go_enter Tryz.func40, Tryz.ntmps40
 go_wp2_with fail
 refine (o_still HO.out (HV.out _)).mono ?_
 rintro e x2 ⟨rfl, hO, -⟩
 replace HO := Hi hO
 clear hO
 clear hx1 hbu z0_0 z0_1 z0_2
 obtain ⟨z0_0, z0_1, z0_2⟩ := HO.out.c3 0 rfl
 go_wp2_with fail
 refine (HA1.out _).mono ?_
 rintro e xp ⟨rfl, rfl⟩
 go_wp2_with fail
 refine (HA2.out _).mono ?_
 rintro e xp ⟨rfl, rfl⟩
 have u6 : s.size = m := U3.out
 have u7 : m ≤ 2000 := U4.out
 go_wp2_with fail
 refine (o_still HO.out (P1.out _)).mono ?_
 rintro e x3 ⟨rfl, hO, -⟩
 replace HO := Hi hO
 clear hO
 clear z0_0 z0_1 z0_2
 obtain ⟨z0_0, z0_1, z0_2⟩ := HO.out.c3 0 rfl
 go_wp2_with fail
 refine (o_still HO.out (P2.out _)).mono ?_
 rintro e x4 ⟨rfl, hO, -⟩
 replace HO := Hi hO
 clear hO
 clear z0_0 z0_1 z0_2
 obtain ⟨z0_0, z0_1, z0_2⟩ := HO.out.c3 0 rfl
 go_wp2_with fail
 refine (o_still HO.out (P3.out _)).mono ?_
 rintro e x5 ⟨rfl, hO, -⟩
 replace HO := Hi hO
 clear hO
 clear z0_0 z0_1 z0_2
 obtain ⟨z0_0, z0_1, z0_2⟩ := HO.out.c3 0 rfl
 obtain ⟨g0_0, g0_1, g0_2⟩ := HO.out.g3 0 rfl
 go_wp2_with fail
 refine wp_region_B (by kernel_rfl) (by kernel_rfl) ?_
 iterate 2 (go_big_quiet_step (fail))
 go_big_quiet_step ((go_at_call 84 ; exact Calls.regrown_of (P4.out _)))
 iterate 2 (go_big_quiet_step (fail))
 go_big_quiet_step ((go_at_call 84 ; exact Calls.regrown_of (P5.out _)))
 iterate 4 (go_big_quiet_step (fail))
 refine wpQuiet_nil ?_
 intro x60 hbw
 have hO := HO.out.stay hbw
 replace HO := Hi hO
 clear hO hbw g0_0 g0_1 g0_2
 obtain ⟨z0_0t, z0_1t, z0_2t⟩ := HO.out.c3 0 rfl
 go_wp2_with fail
 clear z0_0 z0_1 z0_2 z0_0t z0_1t z0_2t
 obtain ⟨-, -, g0_2⟩ := HO.out.g3 0 rfl
 refine wp_region_R 9 (by kernel_rfl) (by kernel_rfl) ?_
 simp only [List.take, List.drop]
 iterate 1 (first | (refine wpR_want (by kernel_rfl) rfl rfl ?_; intro K hK; go_big_quiet_op; go_big_quiet_on) | (refine wpR_is (by kernel_rfl) rfl _ (fun w _ => rfl) ?_; simp only [Act.put, l_T, l_S, l_Z]))
 refine wpR_call (by kernel_rfl) rfl 84  #[.int .i64 0, .int .i64 1] (.string a6) (fun w => by simp [go_sem]) (fun w hb => P6.out w) ?_
 simp only [Act.put, l_T, l_S, l_Z]
 refine wpR_call (by kernel_rfl) rfl 84  #[.int .i64 17, .int .i64 1] (.string a7) (fun w => by simp [go_sem]) (fun w hb => P7.out w) ?_
 simp only [Act.put, l_T, l_S, l_Z]
 iterate 2 (first | (refine wpR_want (by kernel_rfl) rfl rfl ?_; intro K hK; go_big_quiet_op; go_big_quiet_on) | (refine wpR_is (by kernel_rfl) rfl _ (fun w _ => rfl) ?_; simp only [Act.put, l_T, l_S, l_Z]))
 refine wpR_call (by kernel_rfl) rfl 84  #[.int .i64 0, .int .i64 2] (.string a8) (fun w => by simp [go_sem]) (fun w hb => P8.out w) ?_
 simp only [Act.put, l_T, l_S, l_Z]
 iterate 2 (first | (refine wpR_want (by kernel_rfl) rfl rfl ?_; intro K hK; go_big_quiet_op; go_big_quiet_on) | (refine wpR_is (by kernel_rfl) rfl _ (fun w _ => rfl) ?_; simp only [Act.put, l_T, l_S, l_Z]))
 refine wpR_ex (sblkN x60.heap.size 7 (.cells #[.string (a2 ++ a3), .string a6, .string a7, .string a1, .string (a4 ++ a5 ++ a1), .string a8, .string s] 9)) (sblkN_lasts _ _ _) (by kernel_rfl) (fun a' w' hw' he => ?_) (fun d hd => ?_)
 ·
  have hs := hw'.size
  obtain ⟨h52, h53, h54, h55, h56, h57, h59, _⟩ := he
  have h52' : a'.eval (.tmp 52) = .string (a2 ++ a3) := h52
  have h53' : a'.eval (.tmp 53) = .string a6 := h53
  have h54' : a'.eval (.tmp 54) = .string a7 := h54
  have h55' : a'.eval (.tmp 55) = .string a1 := h55
  have h56' : a'.eval (.tmp 56) = .string (a4 ++ a5 ++ a1) := h56
  have h57' : a'.eval (.tmp 57) = .string a8 := h57
  have h59' : a'.eval (.tmp 59) = .string s := h59
  refine wp_of_value (v := .slice (some ⟨w'.heap.size, 0, none⟩) 7 7) (w' := w'.alloc (.cells #[.string (a2 ++ a3), .string a6, .string a7, .string a1, .string (a4 ++ a5 ++ a1), .string a8, .string s] 9)) (run_v_ok ?_) ⟨_, rfl, (Below.refl _ _).alloc (Nat.le_refl _) _, ⟨w'.heap.size, rfl, hs, new_block _ _⟩⟩
  simp only [List.map_toArray, List.map_cons, List.map_nil, h52', h53', h54', h55', h56', h57', h59']
  exact run_bs7 _ _ _ _ _ _ _ _
 cases hd
 simp only [List.nil_append]
 refine wpR_nil (by kernel_rfl) (by simp) ?_
 rintro x61 hbw
 simp only [exAll]
 rintro u60 ⟨br, rfl, hgebr, hbbbr⟩
 simp only [Act.put, l_T, l_S, l_Z, List.drop]
 have hO := HO.out.push (R := blkR br (.cells #[.string (a2 ++ a3), .string a6, .string a7, .string a1, .string (a4 ++ a5 ++ a1), .string a8, .string s] 9)) (F := fun z => z = br) ⟨fun _ => Iff.rfl, hbbbr⟩ (fun z hz => hz ▸ hgebr) hbw
 clear hgebr hbbbr
 replace HO := Hi (show Own _ _ _ [_, blkR br (.cells #[.string (a2 ++ a3), .string a6, .string a7, .string a1, .string (a4 ++ a5 ++ a1), .string a8, .string s] 9)] from hO)
 clear hO hbw g0_2 
 obtain ⟨z0_0, z0_1, z0_2⟩ := HO.out.c3 0 rfl
 go_wp2_with fail
 refine (o_still HO.out (HJ.out _ _ (HO.out.blk 1 rfl))).mono ?_
 rintro e x6 ⟨rfl, hO, -⟩
 replace HO := Hi hO
 clear hO
 clear z0_0 z0_1 z0_2
 obtain ⟨z0_0, z0_1, z0_2⟩ := HO.out.c3 0 rfl
 go_wp2_with fail
 obtain ⟨-, -, g0_2⟩ := HO.out.g3 0 rfl
 refine wp_region_B (by kernel_rfl) (by kernel_rfl) ?_
 iterate 2 (go_big_quiet_step (fail))
 go_big_quiet_step ((go_at_call 84 ; exact Calls.regrown_of (P9.out _)))
 iterate 5 (go_big_quiet_step (fail))
 refine wpQuiet_nil ?_
 intro x70 hbw
 have hO := HO.out.stay hbw
 replace HO := Hi hO
 clear hO hbw g0_2
 go_wp2
 go_ret
 exact ⟨by rw [HQ.out]; rfl, HO.out.below⟩
theorem uEncode_r (fr to fp tp : Int) (s : ByteArray) (w : World) (f0 : 1 ≤ fr) (f1 : fr ≤ 4294967295) (t0 : 1 ≤ to) (t1 : to ≤ 4294967295) (p0 : 1 ≤ fp) (p1 : fp ≤ 65535) (p2 : 1 ≤ tp) (p3 : tp ≤ 65535) (hs : s.size ≤ 2000) :
  Calls Tryz.prog 11 #[.int .i64 fr, .int .i64 to, .agg (udA fp tp s)] w fun e w' => e = .returned (.tuple #[.string (encU fr to fp tp s), .int .i64 0]) ∧ Below w.heap.size w w' := by
 have HO := Hi (Own.nil w none0)
 have HE := Hi (fun w => uencode_r fr to fp tp s w f0 f1 t0 t1 p0 p1 p2 p3 hs)
 generalize encU fr to fp tp s = en at *
 clear f0 f1 t0 t1 p0 p1 p2 p3 hs
 have hmf : ∀ (fn : Fn) (first cap : Array Value) (w : World), (Instr.makeFunc fn first cap).run Tryz.prog w = .ok (.func fn first cap) w := fun _ _ _ _ => rfl
 obtain ⟨x1, hx1, bu, hbu, hO⟩ := HO.out.allocE (.cells #[.int .i64 fp, .int .i64 tp, .string s] 41)
 replace HO := Hi (show Own w none0 x1 [blkR bu (.cells #[.int .i64 fp, .int .i64 tp, .string s] 41)] from hO)
 clear hO
 obtain ⟨x2, hx2, bs, hbs, hO⟩ := HO.out.allocE (.cells #[.string ⟨#[]⟩] 9)
 replace HO := Hi (show Own _ _ _ [_, blkR bs (.cells #[.string ⟨#[]⟩] 9)] from hO)
 clear hO
 obtain ⟨x3, hx3, be, hbe, hO⟩ := HO.out.allocE (.cells #[.int .i64 0] 25)
 replace HO := Hi (show Own _ _ _ [_, _, blkR be (.cells #[.int .i64 0] 25)] from hO)
 clear hO
 obtain ⟨z0_0, z0_1, z0_2⟩ := HO.out.c3 0 rfl
 have z1_0 : x3.cell? _ = some (.string ⟨#[]⟩) := HO.out.cell 1 rfl 0 rfl
 have z2_0 : x3.cell? _ = some (.int .i64 0) := HO.out.cell 2 rfl 0 rfl
 go_enter_defers Tryz.func11, Tryz.ntmps11
 go_wp2_with fail
 refine (o_still HO.out (HE.out _)).mono ?_
 rintro e x4 ⟨rfl, hO, -⟩
 replace HO := Hi hO
 clear hO
 clear hx1 hbu hx2 hbs hx3 hbe z0_0 z0_1 z0_2 z1_0 z2_0
 have z1_0 : x4.cell? _ = some (.string ⟨#[]⟩) := HO.out.cell 1 rfl 0 rfl
 have z2_0 : x4.cell? _ = some (.int .i64 0) := HO.out.cell 2 rfl 0 rfl
 have y1_0 := HO.out.frz 1 rfl 0
 obtain ⟨x5, hx5, hO⟩ := HO.out.setE 1 rfl 0 (.string en)
 replace HO := Hi (show Own _ _ _ [_, blkR bs (.cells #[.string en] 9), _] from hO)
 clear hO
 have ⟨z2_0t, y2_0⟩ : x5.cell? _ = some (.int .i64 0) ∧ _ := HO.out.cf 2 rfl 0 rfl
 obtain ⟨x6, hx6, hO⟩ := HO.out.setE 2 rfl 0 (.int .i64 0)
 replace HO := Hi hO
 clear hO
 go_wp2
 refine leaves_cons (f := 39) (args := #[.pointer (some ⟨bs, 0, none⟩), .pointer (some ⟨be, 0, none⟩)]) (by simp) (by simp [go_sem]) ?_
 refine (idleEncode _ _ _).mono ?_
 rintro e u' w'' ⟨rfl, rfl, rfl⟩
 have hc1 : w''.cell? _ = some (.string en) := HO.out.cell 1 rfl 0 rfl
 have hc2 : w''.cell? _ = some (.int .i64 0) := HO.out.cell 2 rfl 0 rfl
 exact ⟨_, results_cc rfl _ _ _ (a1 := ⟨bs, 0, none⟩) (a2 := ⟨be, 0, none⟩) rfl rfl (by simp [go_sem, hc1]) (by simp [go_sem, hc2]), rfl, HO.out.below⟩
theorem infoUd : (Tryz.prog.info? 41).map (·.size) = some 3 := by kernel_rfl
theorem encU_sz (fr to fp tp : Int) (s : ByteArray) : (encU fr to fp tp s).size = 8 + s.size := by
 simp only [encU, hdU, ByteArray.size_append, bS_sz]
theorem encU_list (fr to fp tp : Int) (s : ByteArray) : (encU fr to fp tp s).data.toList = beN 2 fp ++ (beN 2 tp ++ (beN 2 (8 + (s.size : Int)) ++ (beN 2 (ckF (jnU fr to fp tp s)) ++ s.data.toList))) := by
 simp [encU, hdU, bS]
theorem encU_tail (fr to fp tp : Int) (s : ByteArray) : (encU fr to fp tp s).extract 8 (encU fr to fp tp s).size = s := by
 have h := encU_list fr to fp tp s
 have hz := encU_sz fr to fp tp s
 have e := ext_list (s := encU fr to fp tp s) (p := 8) (k := s.size)
 rw [← hz] at e
 rw [e, h]
 have h4 : (beN 2 fp ++ (beN 2 tp ++ (beN 2 (8 + (s.size : Int)) ++ (beN 2 (ckF (jnU fr to fp tp s)) ++ s.data.toList)))).drop 8 = s.data.toList := by
  rw [← List.append_assoc, ← List.append_assoc, ← List.append_assoc]
  exact List.drop_left' (by simp [beN_len])
 rw [h4, ← ba_len, List.take_length]
theorem ubeD_2 (n : Int) (h0 : 0 ≤ n) (h1 : n < 65536) : beD (beN 2 n) = n := by
 show beD [by8 n 1, by8 n 0] = n
 unfold beD
 simp only [List.foldl_cons, List.foldl_nil, by8_val]
 simp; omega
theorem udecode_r (fr to fp tp : Int) (s : ByteArray) (w : World) (f0 : 1 ≤ fr) (f1 : fr ≤ 4294967295) (t0 : 1 ≤ to) (t1 : to ≤ 4294967295) (p0 : 1 ≤ fp) (p1 : fp ≤ 65535) (p2 : 1 ≤ tp) (p3 : tp ≤ 65535) (hs : s.size ≤ 2000) :
  Calls Tryz.prog 42 #[.int .i64 fr, .int .i64 to, .string (encU fr to fp tp s)] w fun e w' => e = .returned (.agg (udA fp tp s)) ∧ Below w.heap.size w w' := by
 have HO := Hi (Own.nil w none0)
 have HE := Hi (fun w => uencode_r fr to fp tp s w f0 f1 t0 t1 p0 p1 p2 p3 hs)
 have hz := encU_sz fr to fp tp s
 have hl := encU_list fr to fp tp s
 have hm : (encU fr to fp tp s).size ≤ maxLen := by rw [hz]; unfold maxLen; omega
 have b1 : beD (((encU fr to fp tp s).data.toList.drop 0).take 2) = fp := by
  rw [hl, List.drop_zero, List.take_left' (by simp [beN_len])]
  exact ubeD_2 fp (by omega) (by omega)
 have b2 : beD (((encU fr to fp tp s).data.toList.drop 2).take 2) = tp := by
  rw [hl, List.drop_left' (by simp [beN_len]), List.take_left' (by simp [beN_len])]
  exact ubeD_2 tp (by omega) (by omega)
 have G1 := Hi (fun w => uget_r (encU fr to fp tp s) 0 fp (fun w => by have h := get_2 (encU fr to fp tp s) 0 w (by omega) hm; rw [b1] at h; exact h) w)
 have G2 := Hi (fun w => uget_r (encU fr to fp tp s) 2 tp (fun w => by have h := get_2 (encU fr to fp tp s) 2 w (by omega) hm; rw [b2] at h; exact h) w)
 have HT := Hi (encU_tail fr to fp tp s)
 generalize encU fr to fp tp s = en at *
 have hle : (8 : Int) ≤ (en.size : Int) := by omega
 have d1 : decide ((en.size : Int) < 8) = false := decide_eq_false (by omega)
 clear hl b1 b2 hz hm f0 f1 t0 t1 p0 p1 p2 p3 hs
 obtain ⟨x1, hx1, bd, hbd, hO⟩ := HO.out.allocE (.cells #[.int .i64 0, .int .i64 0, .string ⟨#[]⟩] 41)
 replace HO := Hi (show Own w none0 x1 [blkR bd (.cells #[.int .i64 0, .int .i64 0, .string ⟨#[]⟩] 41)] from hO)
 clear hO
 obtain ⟨z0_0, z0_1, z0_2⟩ := HO.out.c3 0 rfl
 go_enter Tryz.func42, Tryz.ntmps42
 go_wp2_with fail
 clear hx1 hbd z0_0 z0_1 z0_2
 refine wp_region_R 8 (by kernel_rfl) (by kernel_rfl) ?_
 simp only [List.take, List.drop]
 iterate 1 (first | (refine wpR_want (by kernel_rfl) rfl rfl ?_; intro K hK; go_big_quiet_op; go_big_quiet_on) | (refine wpR_is (by kernel_rfl) rfl _ (fun w _ => rfl) ?_; simp only [Act.put, l_T, l_S, l_Z]))
 refine wpR_call (by kernel_rfl) rfl 86  #[.string en, .int .i64 0] (.int .i64 fp) (fun w => by simp [go_sem]) (fun w hb => G1.out w) ?_
 simp only [Act.put, l_T, l_S, l_Z]
 iterate 1 (first | (refine wpR_want (by kernel_rfl) rfl rfl ?_; intro K hK; go_big_quiet_op; go_big_quiet_on) | (refine wpR_is (by kernel_rfl) rfl _ (fun w _ => rfl) ?_; simp only [Act.put, l_T, l_S, l_Z]))
 refine wpR_call (by kernel_rfl) rfl 86  #[.string en, .int .i64 2] (.int .i64 tp) (fun w => by simp [go_sem]) (fun w hb => G2.out w) ?_
 simp only [Act.put, l_T, l_S, l_Z]
 iterate 3 (first | (refine wpR_want (by kernel_rfl) rfl rfl ?_; intro K hK; go_big_quiet_op; go_big_quiet_on) | (refine wpR_is (by kernel_rfl) rfl _ (fun w _ => rfl) ?_; simp only [Act.put, l_T, l_S, l_Z]))
 refine wpR_ex (nblk x1.heap.size (.cells #[.int .i64 0, .int .i64 0, .string ⟨#[]⟩] 41)) (nblk_lasts _ _) (by kernel_rfl) (fun a' w' hw' he => ?_) (fun d hd => ?_)
 ·
  have hs := hw'.size
  simp [go_sem]
  exact ⟨_, rfl, (Below.refl _ _).alloc (Nat.le_refl _) _, ⟨w'.heap.size, rfl, hs, new_block _ _⟩⟩
 cases hd
 simp only [List.nil_append]
 refine wpR_nil (by kernel_rfl) (by simp) ?_
 rintro w5 hbw
 simp only [exAll]
 rintro u7 ⟨bu2, rfl, hgebu2, hbbbu2⟩
 simp only [Act.put, l_T, l_S, l_Z, List.drop]
 have hO := HO.out.push (R := blkR bu2 (.cells #[.int .i64 0, .int .i64 0, .string ⟨#[]⟩] 41)) (F := fun z => z = bu2) ⟨fun _ => Iff.rfl, hbbbu2⟩ (fun z hz => hz ▸ hgebu2) hbw
 clear hgebu2 hbbbu2
 replace HO := Hi (show Own _ _ _ [_, blkR bu2 (.cells #[.int .i64 0, .int .i64 0, .string ⟨#[]⟩] 41)] from hO)
 clear hO hbw  
 rw [HT.out]
 obtain ⟨z0_0, z0_1, z0_2⟩ := HO.out.c3 0 rfl
 obtain ⟨x5, x8, x10, hx5, hx8, hx10, k1_0_2, lk1_0_2, k1_1_6, lk1_1_6, k1_2_9, lk1_2_9, hO⟩ := HO.out.steps3 1 rfl (.int .i64 fp) (.int .i64 tp) (.string s)
 replace HO := Hi (show Own _ _ _ [_, blkR bu2 (.cells #[.int .i64 fp, .int .i64 tp, .string s] 41)] from hO)
 clear hO
 obtain ⟨z1_0, z1_1, z1_2⟩ := HO.out.c3 1 rfl
 go_wp2_with fail
 refine (o_still HO.out (HE.out _)).mono ?_
 rintro e x11 ⟨rfl, hO, -⟩
 replace HO := Hi hO
 clear hO
 clear z0_0 z0_1 z0_2 k1_0_2 lk1_0_2 hx5 k1_1_6 lk1_1_6 hx8 k1_2_9 lk1_2_9 hx10 z1_0 z1_1 z1_2
 obtain ⟨z1_0, z1_1, z1_2⟩ := HO.out.c3 1 rfl
 obtain ⟨x15, x18, x20, hx15, hx18, hx20, k0_0_12, lk0_0_12, k0_1_16, lk0_1_16, k0_2_19, lk0_2_19, hO⟩ := HO.out.steps3 0 rfl (.int .i64 fp) (.int .i64 tp) (.string s)
 replace HO := Hi (show Own _ _ _ [blkR bd (.cells #[.int .i64 fp, .int .i64 tp, .string s] 41), _] from hO)
 clear hO
 go_wp2
 exact bodyPost_ret (results_cell_row (P := Tryz.prog) rfl _ _ bd 41 _ _ _ rfl (HO.out.blk 0 rfl) Tryz.underlying41 rfl infoUd) rfl ⟨rfl, HO.out.below⟩
theorem uDecode_r (fr to fp tp : Int) (s : ByteArray) (w : World) (f0 : 1 ≤ fr) (f1 : fr ≤ 4294967295) (t0 : 1 ≤ to) (t1 : to ≤ 4294967295) (p0 : 1 ≤ fp) (p1 : fp ≤ 65535) (p2 : 1 ≤ tp) (p3 : tp ≤ 65535) (hs : s.size ≤ 2000) :
  Calls Tryz.prog 12 #[.int .i64 fr, .int .i64 to, .string (encU fr to fp tp s)] w fun e w' => e = .returned (.tuple #[.agg (udA fp tp s), .int .i64 0]) ∧ Below w.heap.size w w' := by
 have HO := Hi (Own.nil w none0)
 have HE := Hi (fun w => udecode_r fr to fp tp s w f0 f1 t0 t1 p0 p1 p2 p3 hs)
 generalize encU fr to fp tp s = en at *
 clear f0 f1 t0 t1 p0 p1 p2 p3 hs
 have hmf : ∀ (fn : Fn) (first cap : Array Value) (w : World), (Instr.makeFunc fn first cap).run Tryz.prog w = .ok (.func fn first cap) w := fun _ _ _ _ => rfl
 obtain ⟨x1, hx1, bd, hbd, hO⟩ := HO.out.allocE (.cells #[.int .i64 0, .int .i64 0, .string ⟨#[]⟩] 41)
 replace HO := Hi (show Own w none0 x1 [blkR bd (.cells #[.int .i64 0, .int .i64 0, .string ⟨#[]⟩] 41)] from hO)
 clear hO
 obtain ⟨x2, hx2, be, hbe, hO⟩ := HO.out.allocE (.cells #[.int .i64 0] 25)
 replace HO := Hi (show Own _ _ _ [_, blkR be (.cells #[.int .i64 0] 25)] from hO)
 clear hO
 obtain ⟨z0_0, z0_1, z0_2⟩ := HO.out.c3 0 rfl
 have z1_0 : x2.cell? _ = some (.int .i64 0) := HO.out.cell 1 rfl 0 rfl
 go_enter_defers Tryz.func12, Tryz.ntmps12
 go_wp2_with fail
 refine (o_still HO.out (HE.out _)).mono ?_
 rintro e x3 ⟨rfl, hO, -⟩
 replace HO := Hi hO
 clear hO
 clear hx1 hbd hx2 hbe z0_0 z0_1 z0_2 z1_0
 obtain ⟨x7, x10, x12, hx7, hx10, hx12, k0_0_4, lk0_0_4, k0_1_8, lk0_1_8, k0_2_11, lk0_2_11, hO⟩ := HO.out.steps3 0 rfl (.int .i64 fp) (.int .i64 tp) (.string s)
 replace HO := Hi (show Own _ _ _ [blkR bd (.cells #[.int .i64 fp, .int .i64 tp, .string s] 41), _] from hO)
 clear hO
 have ⟨z1_0, y1_0⟩ : x12.cell? _ = some (.int .i64 0) ∧ _ := HO.out.cf 1 rfl 0 rfl
 obtain ⟨x13, hx13, hO⟩ := HO.out.setE 1 rfl 0 (.int .i64 0)
 replace HO := Hi hO
 clear hO
 go_wp2
 refine leaves_cons (f := 41) (args := #[.pointer (some ⟨bd, 0, none⟩), .pointer (some ⟨be, 0, none⟩)]) (by simp) (by simp [go_sem]) ?_
 refine (idleDecode _ _ _).mono ?_
 rintro e u' w'' ⟨rfl, rfl, rfl⟩
 have hce : w''.cell? _ = some (.int .i64 0) := HO.out.cell 1 rfl 0 rfl
 exact ⟨_, results_rc rfl _ _ _ bd 41 _ _ _ rfl (HO.out.blk 0 rfl) Tryz.underlying41 rfl infoUd (a2 := ⟨be, 0, none⟩) rfl (by simp [go_sem, hce]), rfl, HO.out.below⟩
end
end Go.Proofs.YtbhglemolpfnkaaGreatDoor
