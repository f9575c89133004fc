/- The writer of package dns. Printed by wip/tools/gen20G.py. validRecord, Valid, Encode of package dns, at a valid message. Printed by wip/tools/gen20H.py. -/
import Derived.Test.YtbhglemolpfnkaaGreatDoorBld
import Derived.Test.YtbhglemolpfnkaaGreatDoorVn
import Derived.Test.YtbhglemolpfnkaaGreatDoorBf
set_option linter.unusedVariables false
set_option maxRecDepth 100000
set_option maxHeartbeats 32000000
namespace Go.Proofs.YtbhglemolpfnkaaGreatDoor
variable {w0 w : World} {D : Nat → Prop} {L : List Res} {nm : ByteArray} {rs : List Rc} {bs : List UInt8} {b : Nat}
section
open Go.RowKit Go.Sort
attribute [local go_sem] Oper.semAt_some

abbrev Sz (n : Nat) := { x : List UInt8 // x.length ≤ n }
abbrev encS {n : Nat} (x : Sz n) : Array Value := #[.string ⟨x.1.toArray⟩]
theorem labels_inS (n : Nat) (hn : 1 ≤ n) (l N b : Nat) (s : ByteArray) (hs : s.size ≤ maxLen) (hN : (pcs s.data.toList).length ≤ N) (J Jx : List (Sz s.size) → World → Prop) (Kp : World → World → Prop) (W : World) (hJ : AbidesFrom W.heap.size J)
    (hY : ∀ pre x W1, J pre W1 → pre.length < N → YieldAt Fence.wide (n - 1) Tryz.prog l (encL x.1) W1 fun e W' => (e = .returned (.bool true) ∧ J (pre ++ [x]) W' ∧ Kp W1 W') ∨ (e = .returned (.bool false) ∧ Jx (pre ++ [x]) W'))
    (hc : W.cell? ⟨b, 0, none⟩ = some (.string s)) (h0 : J [] W) :
    CallsIn Fence.wide n Tryz.prog 112 #[.func (.yield l) #[] #[], .pointer (some ⟨b, 0, none⟩)] W fun e W' => (∃ v, e = .returned v) ∧ ((∃ ys, ys.map (·.1) = pcs s.data.toList ∧ J ys W') ∨ (∃ pre, pre.map (·.1) <+: pcs s.data.toList ∧ Jx pre W')) := by
  have HY := Hi hY
  have HJ := Hi hJ
  have HN := Hi hN
  have HS := Hi hs
  clear hY hJ hN hs
  refine callsIn_of_wp Tryz.func112 rfl trivial ?_ rfl
  simp only [Tryz.ntmps112, List.size_toArray, List.length_cons, List.length_nil, Nat.reduceAdd, Nat.reduceSub, Array.replicate_succ, Array.replicate_zero, List.push_toArray, List.append_toArray, List.nil_append, List.cons_append]
  gi_wp2
  clear hc
  gi_loopw [3] (fun rv wr => ∃ pre r, rv = .string r ∧ pcs s.data.toList = pre.map (·.1) ++ pcs r.data.toList ∧ J pre wr ∧ r.size ≤ s.size) (fun rv _ => strN rv)
  case atStart => exact ⟨[], s, rfl, rfl, h0, Nat.le_refl _⟩
  case round =>
    obtain ⟨pre, r, rfl, hpc, hJs, hrs⟩ := hrel
    have HP := Hi hpc
    have HJs := Hi hJs
    have HRS := Hi hrs
    have hlen := cutD_len r.data.toList
    have hmore := @pcs_more r.data.toList
    have hlast := @pcs_last r.data.toList
    have C := Hi (fun w => cut_dot r w (Nat.le_trans hrs HS.out))
    unfold cutV at C
    rw [← Lib.size_eq] at hlen
    generalize (cutD r.data.toList).1 = x at *
    generalize (cutD r.data.toList).2.1 = y at *
    generalize (cutD r.data.toList).2.2 = z at *
    have HL := Hi hlen
    have HM := Hi hmore
    have HA := Hi hlast
    clear hpc hJs hrs hlen hmore hlast
    have hlt : pre.length < N := by
      have h1 := HN.out
      rw [HP.out, List.length_append, List.length_map] at h1
      have : 0 < (pcs r.data.toList).length := List.length_pos_iff.2 (pcs_ne _)
      omega
    have hxs : x.length ≤ s.size := by have := HL.out.2.2; have := HRS.out; omega
    have Y := Hi (fun (W' : World) (hb : Below wr.heap.size wr W') => HY.out pre ⟨x, hxs⟩ W' (HJ.out _ _ _ none HJs.out (grownBy_below hb) (fun r e => by cases e)) hlt)
    gi_wp2_with (first
      | (refine ⟨trivial, ?_⟩; gi_at_call 113; refine (callsIn_wide.2 (C.out _)).mono ?_; rintro e w1 ⟨rfl, hb1⟩; obtain ⟨fn, tmps, assign, body, hy, hR⟩ := Y.out w1 hb1)
      | (refine hR.mono ?_; intro e W3 h3; obtain ⟨bb, rfl, hbb⟩ := yield_ways h3; have HBB := Hi hbb; clear h3 hbb hy hR))
    all_goals first
      | (have hb : bb = true := by assumption
         have hz : (!z) = false := by assumption
         have hz' : z = true := by simpa using hz
         go_roundw
         case rel => exact ⟨pre ++ [⟨x, hxs⟩], ⟨y.toArray⟩, rfl, by rw [HP.out, HM.out hz', mk_toList]; simp, (HBB.out.1 hb).1, by rw [mk_size]; have := HL.out.1; have := HRS.out; omega⟩
         case measure => show (⟨y.toArray⟩ : ByteArray).size < r.size; rw [mk_size]; exact HL.out.2.1 hz')
      | (have hb : bb = true := by assumption
         have hz : (!z) = true := by assumption
         have hz' : z = false := by simpa using hz
         refine bodyPost_ret (results_none rfl _ _ _) rfl ?_
         exact ⟨⟨_, rfl⟩, .inl ⟨_, by rw [HP.out, HA.out hz', List.map_append]; rfl, (HBB.out.1 hb).1⟩⟩)
      | (have hb : ¬ bb = true := by assumption
         have hb' : bb = false := by simpa using hb
         refine bodyPost_ret (results_none rfl _ _ _) rfl ?_
         exact ⟨⟨_, rfl⟩, .inr ⟨_, (by
           cases z with
           | true => rw [HP.out, HM.out rfl, List.map_append]; exact ⟨pcs y, by simp⟩
           | false => rw [HP.out, HA.out rfl, List.map_append]; exact List.prefix_refl _), HBB.out.2 hb'⟩⟩)
theorem labels_stopsS (n : Nat) (hn : 1 ≤ n) (N b : Nat) (s : ByteArray) (hs : s.size ≤ maxLen) (hN : (pcs s.data.toList).length ≤ N) (Kp : World → World → Prop) (w : World) (hc : w.cell? ⟨b, 0, none⟩ = some (.string s)) :
  SeqStopsK Fence.wide n Tryz.prog 112 #[.pointer (some ⟨b, 0, none⟩)] encS Kp (fun xs : List (Sz s.size) => xs.map (·.1) = pcs s.data.toList) (fun pre => pre.map (·.1) <+: pcs s.data.toList) N w := by
 intro l J Jx W hW hJ hJx hY h0
 exact labels_inS n hn l N b s hs hN J Jx Kp W hJ hY (keep hW hc) h0

theorem wnum (k : Nat) (n : Int) (hput : ∀ w, Calls Tryz.prog 122 #[.int .i64 n, .int .i64 k] w fun e w' => e = .returned (.tuple #[.string ⟨(beN k n).toArray⟩, .int .i64 0]) ∧ Below w.heap.size w w') (h : Own w0 D w L) (i : Nat) (hi : L[i]? = some (resW b false bs)) (hl : bs.length + k ≤ 1000000) :
  Calls Tryz.prog 133 #[.pointer (some ⟨b, 0, none⟩), .int .i64 n, .int .i64 k] w (OPost w0 D (L.set i (resW b false (bs ++ beN k n))) (.tuple #[]) w) := by
 refine o_one h hi fun D HO0 => ?_
 clear h hi
 have HO := Hi HO0
 have HP := Hi hput
 clear HO0 hput
 have hsz : (⟨(beN k n).toArray⟩ : ByteArray).size = k := by rw [mk_size, beN_len]
 have HW := Hi (fun (w' : World) (h : Own w D w' [resW b false bs]) => (by have := writeStrW ⟨(beN k n).toArray⟩ h 0 rfl (by rw [hsz]; exact hl); rwa [mk_toList] at this : Calls Tryz.prog 161 #[.pointer (some ⟨b, 0, none⟩), .string ⟨(beN k n).toArray⟩] w' (OPost w D [resW b false (bs ++ beN k n)] (.tuple #[.int .i64 (⟨(beN k n).toArray⟩ : ByteArray).size, .nilIface]) w')))
 generalize (⟨(beN k n).toArray⟩ : ByteArray) = s at *
 clear hsz
 go_enter Tryz.func133, Tryz.ntmps133
 go_wp2_with fail
 refine (o_still HO.out (HP.out _)).mono ?_
 rintro e x1 ⟨rfl, hO, -⟩
 replace HO := Hi hO
 clear hO
 go_wp2_with fail
 refine (HW.out _ HO.out).mono ?_
 rintro e x2 ⟨rfl, hO, -⟩
 replace HO := Hi hO
 clear hO
 go_wp2
 refine bodyPost_ret (results_none rfl _ _ _) rfl ?_
 exact ⟨rfl, HO.out, HO.out.size⟩
theorem wnum1 (n : Int) (h0 : 0 ≤ n) (h1 : n < 256) (h : Own w0 D w L) (i : Nat) (hi : L[i]? = some (resW b false bs)) (hl : bs.length + 1 ≤ 1000000) :
  Calls Tryz.prog 133 #[.pointer (some ⟨b, 0, none⟩), .int .i64 n, .int .i64 1] w (OPost w0 D (L.set i (resW b false (bs ++ beN 1 n))) (.tuple #[]) w) := wnum 1 n (fun w => put_1 n w h0 h1) h i hi hl
theorem wnum2 (n : Int) (h0 : 0 ≤ n) (h1 : n < 65536) (h : Own w0 D w L) (i : Nat) (hi : L[i]? = some (resW b false bs)) (hl : bs.length + 2 ≤ 1000000) :
  Calls Tryz.prog 133 #[.pointer (some ⟨b, 0, none⟩), .int .i64 n, .int .i64 2] w (OPost w0 D (L.set i (resW b false (bs ++ beN 2 n))) (.tuple #[]) w) := wnum 2 n (fun w => put_2 n w h0 h1) h i hi hl
theorem wnum4 (n : Int) (h0 : 0 ≤ n) (h1 : n < 4294967296) (h : Own w0 D w L) (i : Nat) (hi : L[i]? = some (resW b false bs)) (hl : bs.length + 4 ≤ 1000000) :
  Calls Tryz.prog 133 #[.pointer (some ⟨b, 0, none⟩), .int .i64 n, .int .i64 4] w (OPost w0 D (L.set i (resW b false (bs ++ beN 4 n))) (.tuple #[]) w) := wnum 4 n (fun w => put_4 n w h0 h1) h i hi hl
def encL1 (x : List UInt8) : List UInt8 := beN 1 (x.length : Int) ++ x
def encLs (l : List (List UInt8)) : List UInt8 := l.flatMap encL1
theorem encLs_snoc (l : List (List UInt8)) (x : List UInt8) : encLs (l ++ [x]) = encLs l ++ beN 1 (x.length : Int) ++ x := by
 unfold encLs encL1; simp
theorem encLs_len (l : List (List UInt8)) : (encLs l).length = (l.map fun x => x.length + 1).sum := by
 induction l with
 | nil => rfl
 | cons x l ih => simp only [encLs, List.flatMap_cons, List.length_append, List.map_cons, List.sum_cons] at ih ⊢; rw [ih]; simp [encL1, beN_len]; omega
theorem pcs_sum : ∀ l : List UInt8, ((pcs l).map fun x => x.length + 1).sum = l.length + 1
 | [] => rfl
 | b :: r => by
  have ih := pcs_sum r
  simp only [pcs]
  split
  ·
   simp only [List.map_cons, List.sum_cons, ih, List.length_cons, List.length_nil]; omega
  ·
   split
   ·
    rename_i h; rw [h] at ih; simp at ih
   ·
    rename_i p ps h
    rw [h] at ih
    simp only [List.map_cons, List.sum_cons, List.length_cons] at ih ⊢
    omega
theorem cnt_le : ∀ l : List (List UInt8), l.length ≤ (l.map fun x => x.length + 1).sum
 | [] => Nat.zero_le _
 | x :: l => by have := cnt_le l; simp only [List.length_cons, List.map_cons, List.sum_cons]; omega
def encNm (s : ByteArray) : List UInt8 := encLs (pcs s.data.toList) ++ [0]
theorem encNm_len (s : ByteArray) : (encNm s).length = s.size + 2 := by
 unfold encNm; rw [List.length_append, encLs_len, pcs_sum, ← Lib.size_eq]; rfl
theorem encLs_le {n : Nat} : ∀ pre : List (Sz n), (encLs (pre.map (·.1))).length ≤ pre.length * (n + 1)
 | [] => by simp [encLs]
 | x :: pre => by
  have ih := encLs_le pre
  have hx := x.2
  have e : encLs ((x :: pre).map (·.1)) = encL1 x.1 ++ encLs (pre.map (·.1)) := by simp [encLs]
  rw [e, List.length_append, List.length_cons, Nat.add_mul]
  have : (encL1 x.1).length = 1 + x.1.length := by simp [encL1, beN_len]
  omega
def wnI (b bq : Nat) (bs : List UInt8) (N : Nat) (pre : List (Sz N)) (L : List Res) : Prop := L = [resW b false (bs ++ encLs (pre.map (·.1))), blkR bq (.cells #[.pointer (some ⟨b, 0, none⟩)] 262)]
def wnX (N : Nat) (c : Code) (pre : List (Sz N)) (L : List Res) : Prop := False
theorem still_resW {B b : Nat} {fl : Bool} : (resW b fl bs).still B := still_ex fun _ => still_fact (still_sep (stills_cons (still_blk _ rfl) (stills_cons (still_row _ _ _ _ _) stills_nil)))
theorem wnI_still {B b bq N : Nat} : ∀ pre L, wnI b bq bs N pre L → stills B L := fun pre L h => by rw [h]; exact stills_cons still_resW (stills_cons (still_blk _ rfl) stills_nil)
theorem wnX_still {B N : Nat} : ∀ c pre L, wnX N c pre L → stills B L := fun c pre L h => h.elim
theorem wname (s : ByteArray) (hv : vname s = true) (h : Own w0 D w L) (i : Nat) (hi : L[i]? = some (resW b false bs)) (hl : bs.length + 10000 ≤ 1000000) :
  Calls Tryz.prog 134 #[.pointer (some ⟨b, 0, none⟩), .string s] w (OPost w0 D (L.set i (resW b false (bs ++ encNm s))) (.tuple #[]) w) := by
 refine o_one h hi fun D HO0 => ?_
 clear h hi
 refine (callsIn_wide (n := 5)).1 ?_
 obtain ⟨n, hn⟩ : ∃ n : Nat, n = 5 := ⟨_, rfl⟩
 rw [← hn]
 have h1 : 1 ≤ n := by omega
 have HNN := Hi hn
 clear hn
 have HO := Hi HO0
 clear HO0
 have hv2 : s.size ≤ 60 ∧ (pcs s.data.toList).all lbOk = true := by unfold vname at hv; simpa using hv
 have HS := Hi (show s.size ≤ maxLen by unfold maxLen; omega)
 have HLB := Hi hv2.2
 have HEL := Hi (show (encLs (pcs s.data.toList)).length = s.size + 1 by rw [encLs_len, pcs_sum, ← Lib.size_eq])
 have h60 := hv2.1
 clear hv hv2
 refine callsIn_of_wp_marks Tryz.func134 rfl trivial ?_ rfl
 simp only [Tryz.ntmps134, List.size_toArray, List.length_cons, List.length_nil, Nat.reduceAdd, Nat.reduceSub, Array.replicate_succ, Array.replicate_zero, List.push_toArray, List.append_toArray, List.nil_append, List.cons_append]
 obtain ⟨bq, hbq⟩ : ∃ y, w.heap.size = y := ⟨_, rfl⟩
 obtain ⟨x1, hx1⟩ : ∃ y, w.alloc (.cells #[.pointer (some ⟨b, 0, none⟩)] 262) = y := ⟨_, rfl⟩
 have hO := HO.out.alloc (.cells #[.pointer (some ⟨b, 0, none⟩)] 262)
 rw [hx1, hbq] at hO
 replace HO := Hi (show Own w D x1 [resW b false bs, blkR bq (.cells #[.pointer (some ⟨b, 0, none⟩)] 262)] from hO)
 clear hO
 gi_wp2_with (refine ⟨trivial, ?_⟩; gi_at_call 79; refine (callsIn_wide.2 (labels_any s _)).mono ?_; rintro e x3 ⟨rfl, rfl⟩)
 obtain ⟨x3, hx3⟩ : ∃ y, x1.alloc (.cells #[.string s] 9) = y := ⟨_, rfl⟩
 rw [hx3]
 obtain ⟨bi, hbi⟩ : ∃ y, x1.heap.size = y := ⟨_, rfl⟩
 have hO := HO.out.alloc (.cells #[.string s] 9)
 rw [hx3, hbi] at hO
 replace HO := Hi (show Own _ _ _ [_, _, blkR bi (.cells #[.string s] 9)] from hO)
 rw [hbi]
 clear hO hx3 hbi hx1 hbq
 have hp := HO.out.pick [2, 0, 1] (by decide) (L' := [blkR bi (.cells #[.string s] 9)] ++ [resW b false bs, blkR bq (.cells #[.pointer (some ⟨b, 0, none⟩)] 262)]) (fun k R hk => by
  match k, hk with
  | 0, hk => exact ⟨2, rfl, hk⟩
  | 1, hk => exact ⟨0, rfl, hk⟩
  | 2, hk => exact ⟨1, rfl, hk⟩)
 obtain ⟨DA, DB, s1, s2, s3, s4, s5, s6⟩ := Own.split (A := [blkR bi (.cells #[.string s] 9)]) (B := [resW b false bs, blkR bq (.cells #[.pointer (some ⟨b, 0, none⟩)] 262)]) hp
 clear hp
 refine wpIn_rangeO (encs := encS) (D := DB) h1 (gf := 112) (lb := #[.pointer (some ⟨bi, 0, none⟩)]) rfl (enters_of Tryz.func112 (by kernel_rfl) rfl)
  (labels_stopsS (n - 1) (by have := HNN.out; omega) (pcs s.data.toList).length bi s HS.out (Nat.le_refl _) _ x3 (s1.cell 0 rfl 0 rfl)) (fun _ => rfl)
  (wnI b bq bs s.size) (wnX s.size) wnI_still wnX_still s2 (by unfold wnI encLs; simp)
  (fun x a' Lx => Lx = [] ∧ a' = { tmps := #[.pointer (some ⟨b, 0, none⟩), .string s, .pointer (some ⟨bq, 0, none⟩), undef, .string ⟨x.1.toArray⟩, .string s, .func (.func 112) #[] #[.pointer (some ⟨bi, 0, none⟩)], .string ⟨x.1.toArray⟩, undef, undef, undef, undef, undef, undef, undef, undef, undef, undef, undef], defers := [] })
  ?assign ?body ?done ?stop
 case assign =>
  intro l pre x W D' L K hi ho hK
  gi_wp2
  exact hK _ _ [] ⟨rfl, rfl⟩ (by simpa using ho)
 case body =>
  rintro l pre ⟨x, hx⟩ a' W D' L Lx rfl ⟨rfl, rfl⟩ hlt hup ho
  have HO := Hi (show Own W D' W [resW b false (bs ++ encLs (pre.map (·.1))), _] from ho)
  clear ho
  have hle := encLs_le pre
  have hpl : pre.length * (s.size + 1) ≤ 61 * 61 := Nat.mul_le_mul (by have := cnt_le (pcs s.data.toList); rw [pcs_sum, ← Lib.size_eq] at this; omega) (by omega)
  obtain ⟨acc, hacc⟩ : ∃ y, bs ++ encLs (pre.map (·.1)) = y := ⟨_, rfl⟩
  have hal : acc.length ≤ bs.length + 3721 := by rw [← hacc, List.length_append]; omega
  have HACC := Hi (show wnI b bq bs s.size (pre ++ [⟨x, hx⟩]) [resW b false (acc ++ beN 1 (x.length : Int) ++ x), blkR bq (.cells #[.pointer (some ⟨b, 0, none⟩)] 262)] by
   unfold wnI; rw [List.map_append]; show _ = [resW b false (bs ++ encLs (_ ++ [x])), _]; rw [encLs_snoc, ← hacc]; simp)
  rw [hacc] at HO
  clear hle hpl hacc
  obtain ⟨m, hm⟩ : ∃ y, x.length = y := ⟨_, rfl⟩
  have HM := Hi hm
  have hsz : (⟨x.toArray⟩ : ByteArray).size = m := by rw [mk_size, hm]
  have HSZ := Hi hsz
  have hm60 : m ≤ 60 := by omega
  rw [hm] at HACC
  obtain ⟨sx, hsx⟩ : ∃ y, (⟨x.toArray⟩ : ByteArray) = y := ⟨_, rfl⟩
  have hsz : sx.size = m := by rw [← hsx]; exact hsz
  have HSX := Hi (show sx.data.toList = x by rw [← hsx, mk_toList])
  show Code.wpIn _ _ _ _ _ { tmps := #[.pointer (some ⟨b, 0, none⟩), .string s, .pointer (some ⟨bq, 0, none⟩), undef, .string ⟨x.toArray⟩, .string s, .func (.func 112) #[] #[.pointer (some ⟨bi, 0, none⟩)], .string ⟨x.toArray⟩, undef, undef, undef, undef, undef, undef, undef, undef, undef, undef, undef], defers := [] } W
  rw [hsx]
  clear hm hsx HSZ
  have hd : 1 ≤ n - 1 - 1 := by have := HNN.out; omega
  have c1 : W.cell? _ = some (.pointer (some ⟨b, 0, none⟩)) := HO.out.cell 1 rfl 0 rfl
  gi_wp2_with (first
   | (refine ⟨trivial, ?_⟩; gi_at_call 133; refine (CallsIn.inRound l (callsIn_wide.2 (wnum1 (m : Int) (by omega) (by omega) HO.out 0 rfl (by omega)))).mono ?_; rintro e W2 ⟨rfl, hO, -⟩; have c2 : W2.cell? ⟨bq, 0, none⟩ = some (.pointer (some ⟨b, 0, none⟩)) := Own.cell hO 1 rfl 0 rfl)
   | (refine ⟨trivial, ?_⟩; gi_at_call 161; refine (CallsIn.inRound l (callsIn_wide.2 (writeStrW sx hO 0 rfl (by rw [List.length_append, beN_len]; omega)))).mono ?_; rintro e W3 ⟨rfl, hO3, -⟩))
  rw [HSX.out] at hO3
  exact ⟨_, HACC.out, hO3⟩
 case done =>
  rintro k xs W L hxs hi ho
  unfold wnI at hi
  rw [hxs] at hi
  subst hi
  have hal : (bs ++ encLs (pcs s.data.toList)).length ≤ bs.length + 61 := by rw [List.length_append, HEL.out]; omega
  obtain ⟨acc, hacc⟩ : ∃ y, bs ++ encLs (pcs s.data.toList) = y := ⟨_, rfl⟩
  rw [hacc] at ho hal
  have HACC := Hi (show bs ++ encNm s = acc ++ beN 1 0 by unfold encNm; rw [← hacc, ← List.append_assoc]; rfl)
  clear hacc
  have HO := Hi (show Own x3 DB W [blkR k (.deferred (some [])), resW b false acc, blkR bq (.cells #[.pointer (some ⟨b, 0, none⟩)] 262)] from ho)
  clear ho
  have c1 : W.cell? _ = some (.pointer (some ⟨b, 0, none⟩)) := HO.out.cell 2 rfl 0 rfl
  gi_wp2_with (refine ⟨trivial, ?_⟩; gi_at_call 133; refine (callsIn_wide.2 (wnum1 0 (by omega) (by omega) HO.out 1 rfl (by omega))).mono ?_; rintro e W2 ⟨rfl, hO, -⟩)
  refine ⟨by simp, .inl ⟨_, _, rfl, run_takeDeferred (Own.blk hO 0 rfl), ?_⟩⟩
  have hF := (s6 _ _ (Own.put hO 0 rfl (.deferred none))).pick [2] (by decide) (L' := [resW b false (bs ++ encNm s)]) (fun k R hk => by
   match k, hk with
   | 0, hk => exact ⟨2, rfl, by rw [HACC.out] at hk; exact hk⟩)
  exact ⟨_, results_none rfl _ _ _, rfl, hF, hF.size⟩
 case stop =>
  rintro k c pre W L hpre hf ho
  exact hf.elim
end
open Go.RowKit Go.Sort

structure RcV (r : Rc) : Prop where
 nm : vname r.nm = true
 t0 : 0 ≤ r.tt
 t9 : r.tt ≤ 1000
 al : (r.kd = 1 ∧ adrOk r.ad = true ∧ r.to.toList = []) ∨ (r.kd = 2 ∧ vname r.to = true ∧ r.ad = 0)
def encRec (r : Rc) : List UInt8 := encNm r.nm ++ beN 1 r.kd ++ beN 2 r.tt ++ (if r.kd = 2 then encNm r.to else beN 4 r.ad)
theorem vname_sz {s : ByteArray} (h : vname s = true) : s.size ≤ 60 := by unfold vname at h; simp at h; exact h.1
theorem encRec_len {r : Rc} (h : RcV r) : (encRec r).length ≤ 127 := by
 have h1 := vname_sz h.nm
 unfold encRec
 rcases h.al with ⟨k, _⟩ | ⟨k, h2, _⟩
 ·
  rw [if_neg (by omega)]; simp only [List.length_append, encNm_len, beN_len]; omega
 ·
  have h3 := vname_sz h2
  rw [if_pos k]; simp only [List.length_append, encNm_len, beN_len]; omega
theorem wrec1 (nm : ByteArray) (tt ad : Int) (to : ByteArray) (hn : vname nm = true) (t0 : 0 ≤ tt) (t9 : tt ≤ 1000) (h4 : adrOk ad = true) (h : Own w0 D w L) (i : Nat) (hi : L[i]? = some (resW b false bs)) (hl : bs.length + 20000 ≤ 1000000) :
  Calls Tryz.prog 135 #[.pointer (some ⟨b, 0, none⟩), .agg #[.string nm, .int .i64 1, .int .i64 tt, .int .i64 ad, .string to]] w (OPost w0 D (L.set i (resW b false (bs ++ encRec ⟨nm, 1, tt, ad, to⟩))) (.tuple #[]) w) := by
 refine o_one h hi fun D HO0 => ?_
 clear h hi
 have HO := Hi HO0
 have HN := Hi hn
 have HE := Hi (show bs ++ encRec ⟨nm, 1, tt, ad, to⟩ = bs ++ encNm nm ++ beN 1 1 ++ beN 2 tt ++ beN 4 ad by unfold encRec; simp)
 have hsz := vname_sz hn
 have hln := encNm_len nm
 have h5 : 0 ≤ ad ∧ ad < 4294967296 := by unfold adrOk at h4; simp at h4; omega
 obtain ⟨h6, h7⟩ := h5
 clear h4
 clear HO0 hn
 obtain ⟨x1, hx1, br, hbr, hO⟩ := HO.out.allocE (.cells #[.string nm, .int .i64 1, .int .i64 tt, .int .i64 ad, .string to] 131)
 replace HO := Hi (show Own w D x1 [resW b false bs, blkR br (.cells #[.string nm, .int .i64 1, .int .i64 tt, .int .i64 ad, .string to] 131)] from hO)
 clear hO
 obtain ⟨z1_0, z1_1, z1_2, z1_3, z1_4⟩ := HO.out.c5 1 rfl
 go_enter Tryz.func135, Tryz.ntmps135
 go_wp2_with fail
 refine (wname nm HN.out HO.out 0 rfl (by omega)).mono ?_
 rintro e x2 ⟨rfl, hO, -⟩
 replace HO := Hi (show Own _ _ _ [resW b false (bs ++ encNm nm), _] from hO)
 clear hO
 clear hx1 hbr z1_0 z1_1 z1_2 z1_3 z1_4
 obtain ⟨z1_0, z1_1, z1_2, z1_3, z1_4⟩ := HO.out.c5 1 rfl
 go_wp2_with fail
 refine (wnum1 1 (by omega) (by omega) HO.out 0 rfl (by rw [List.length_append]; omega)).mono ?_
 rintro e x3 ⟨rfl, hO, -⟩
 replace HO := Hi (show Own _ _ _ [resW b false (bs ++ encNm nm ++ beN 1 1), _] from hO)
 clear hO
 clear z1_0 z1_1 z1_2 z1_3 z1_4
 obtain ⟨z1_0, z1_1, z1_2, z1_3, z1_4⟩ := HO.out.c5 1 rfl
 go_wp2_with fail
 refine (wnum2 tt t0 (by omega) HO.out 0 rfl (by rw [List.length_append, List.length_append, beN_len]; omega)).mono ?_
 rintro e x4 ⟨rfl, hO, -⟩
 replace HO := Hi (show Own _ _ _ [resW b false (bs ++ encNm nm ++ beN 1 1 ++ beN 2 tt), _] from hO)
 clear hO
 clear z1_0 z1_1 z1_2 z1_3 z1_4
 obtain ⟨z1_0, z1_1, z1_2, z1_3, z1_4⟩ := HO.out.c5 1 rfl
 go_wp2_with fail
 refine (wnum4 ad h6 h7 HO.out 0 rfl (by rw [List.length_append, List.length_append, List.length_append, beN_len, beN_len]; omega)).mono ?_
 rintro e x5 ⟨rfl, hO, -⟩
 replace HO := Hi (show Own _ _ _ [resW b false (bs ++ encNm nm ++ beN 1 1 ++ beN 2 tt ++ beN 4 ad), _] from hO)
 clear hO
 clear z1_0 z1_1 z1_2 z1_3 z1_4
 go_wp2
 refine bodyPost_ret (results_none rfl _ _ _) rfl ?_
 exact ⟨rfl, by rw [HE.out]; exact HO.out.take 1, HO.out.size⟩
theorem wrec2 (nm : ByteArray) (tt ad : Int) (to : ByteArray) (hn : vname nm = true) (t0 : 0 ≤ tt) (t9 : tt ≤ 1000) (h4 : vname to = true) (h : Own w0 D w L) (i : Nat) (hi : L[i]? = some (resW b false bs)) (hl : bs.length + 20000 ≤ 1000000) :
  Calls Tryz.prog 135 #[.pointer (some ⟨b, 0, none⟩), .agg #[.string nm, .int .i64 2, .int .i64 tt, .int .i64 0, .string to]] w (OPost w0 D (L.set i (resW b false (bs ++ encRec ⟨nm, 2, tt, 0, to⟩))) (.tuple #[]) w) := by
 refine o_one h hi fun D HO0 => ?_
 clear h hi
 have HO := Hi HO0
 have HN := Hi hn
 have HE := Hi (show bs ++ encRec ⟨nm, 2, tt, 0, to⟩ = bs ++ encNm nm ++ beN 1 2 ++ beN 2 tt ++ encNm to by unfold encRec; simp)
 have hsz := vname_sz hn
 have hln := encNm_len nm
 have H4 := Hi h4
 clear h4
 clear HO0 hn
 obtain ⟨x1, hx1, br, hbr, hO⟩ := HO.out.allocE (.cells #[.string nm, .int .i64 2, .int .i64 tt, .int .i64 0, .string to] 131)
 replace HO := Hi (show Own w D x1 [resW b false bs, blkR br (.cells #[.string nm, .int .i64 2, .int .i64 tt, .int .i64 0, .string to] 131)] from hO)
 clear hO
 obtain ⟨z1_0, z1_1, z1_2, z1_3, z1_4⟩ := HO.out.c5 1 rfl
 go_enter Tryz.func135, Tryz.ntmps135
 go_wp2_with fail
 refine (wname nm HN.out HO.out 0 rfl (by omega)).mono ?_
 rintro e x2 ⟨rfl, hO, -⟩
 replace HO := Hi (show Own _ _ _ [resW b false (bs ++ encNm nm), _] from hO)
 clear hO
 clear hx1 hbr z1_0 z1_1 z1_2 z1_3 z1_4
 obtain ⟨z1_0, z1_1, z1_2, z1_3, z1_4⟩ := HO.out.c5 1 rfl
 go_wp2_with fail
 refine (wnum1 2 (by omega) (by omega) HO.out 0 rfl (by rw [List.length_append]; omega)).mono ?_
 rintro e x3 ⟨rfl, hO, -⟩
 replace HO := Hi (show Own _ _ _ [resW b false (bs ++ encNm nm ++ beN 1 2), _] from hO)
 clear hO
 clear z1_0 z1_1 z1_2 z1_3 z1_4
 obtain ⟨z1_0, z1_1, z1_2, z1_3, z1_4⟩ := HO.out.c5 1 rfl
 go_wp2_with fail
 refine (wnum2 tt t0 (by omega) HO.out 0 rfl (by rw [List.length_append, List.length_append, beN_len]; omega)).mono ?_
 rintro e x4 ⟨rfl, hO, -⟩
 replace HO := Hi (show Own _ _ _ [resW b false (bs ++ encNm nm ++ beN 1 2 ++ beN 2 tt), _] from hO)
 clear hO
 clear z1_0 z1_1 z1_2 z1_3 z1_4
 obtain ⟨z1_0, z1_1, z1_2, z1_3, z1_4⟩ := HO.out.c5 1 rfl
 go_wp2_with fail
 refine (wname to H4.out HO.out 0 rfl (by rw [List.length_append, List.length_append, List.length_append, beN_len, beN_len]; omega)).mono ?_
 rintro e x5 ⟨rfl, hO, -⟩
 replace HO := Hi (show Own _ _ _ [resW b false (bs ++ encNm nm ++ beN 1 2 ++ beN 2 tt ++ encNm to), _] from hO)
 clear hO
 clear z1_0 z1_1 z1_2 z1_3 z1_4
 go_wp2
 refine bodyPost_ret (results_none rfl _ _ _) rfl ?_
 exact ⟨rfl, by rw [HE.out]; exact HO.out.take 1, HO.out.size⟩
theorem wrec (r : Rc) (hr : RcV r) (h : Own w0 D w L) (i : Nat) (hi : L[i]? = some (resW b false bs)) (hl : bs.length + 20000 ≤ 1000000) :
  Calls Tryz.prog 135 #[.pointer (some ⟨b, 0, none⟩), rcV r] w (OPost w0 D (L.set i (resW b false (bs ++ encRec r))) (.tuple #[]) w) := by
 obtain ⟨nm, kd, tt, ad, to⟩ := r
 obtain ⟨h1, h2, h3, h4⟩ := hr
 rcases h4 with ⟨rfl, h4, h5⟩ | ⟨rfl, h4, rfl⟩
 ·
  exact wrec1 nm tt ad to h1 h2 h3 h4 h i hi hl
 ·
  exact wrec2 nm tt 0 to h1 h2 h3 h4 h i hi hl
theorem vrec1 (nm : ByteArray) (tt ad : Int) (to : ByteArray) (w : World) (hn : vname nm = true) (t0 : ¬ tt < 0) (t9 : ¬ 1000 < tt) (h4 : adrOk ad = true) (h5 : to.toList = []) :
  Calls Tryz.prog 165 #[.agg #[.string nm, .int .i64 1, .int .i64 tt, .int .i64 ad, .string to]] w (crPost (.bool true) w) := by
 have HO := Hi (Own.nil w none0)
 have HN := Hi hn
 have HNS := Hi (show nm.size ≤ maxLen by have := vname_sz hn; unfold maxLen; omega)
 have H4 := Hi h4
 clear hn h4
 obtain ⟨x1, hx1, br, hbr, hO⟩ := HO.out.allocE (.cells #[.string nm, .int .i64 1, .int .i64 tt, .int .i64 ad, .string to] 131)
 replace HO := Hi (show Own w none0 x1 [blkR br (.cells #[.string nm, .int .i64 1, .int .i64 tt, .int .i64 ad, .string to] 131)] from hO)
 clear hO
 obtain ⟨z0_0, z0_1, z0_2, z0_3, z0_4⟩ := HO.out.c5 0 rfl
 go_enter Tryz.func165, Tryz.ntmps165
 go_wp2_with fail
 refine (o_still HO.out (vname_r HN.out HNS.out _)).mono ?_
 rintro e x2 ⟨rfl, hO, -⟩
 replace HO := Hi hO
 clear hO
 clear hx1 hbr z0_0 z0_1 z0_2 z0_3 z0_4
 obtain ⟨z0_0, z0_1, z0_2, z0_3, z0_4⟩ := HO.out.c5 0 rfl
 go_wp2_with fail
 refine (adr_r H4.out _).mono ?_
 rintro e xp ⟨rfl, rfl⟩
 go_wp2
 all_goals (go_ret; exact ⟨rfl, HO.out.below⟩)
theorem vrec2 (nm : ByteArray) (tt ad : Int) (to : ByteArray) (w : World) (hn : vname nm = true) (t0 : ¬ tt < 0) (t9 : ¬ 1000 < tt) (h4 : vname to = true) :
  Calls Tryz.prog 165 #[.agg #[.string nm, .int .i64 2, .int .i64 tt, .int .i64 0, .string to]] w (crPost (.bool true) w) := by
 have HO := Hi (Own.nil w none0)
 have HN := Hi hn
 have HNS := Hi (show nm.size ≤ maxLen by have := vname_sz hn; unfold maxLen; omega)
 have H4 := Hi h4
 have HTS := Hi (show to.size ≤ maxLen by have := vname_sz h4; unfold maxLen; omega)
 clear hn h4
 obtain ⟨x1, hx1, br, hbr, hO⟩ := HO.out.allocE (.cells #[.string nm, .int .i64 2, .int .i64 tt, .int .i64 0, .string to] 131)
 replace HO := Hi (show Own w none0 x1 [blkR br (.cells #[.string nm, .int .i64 2, .int .i64 tt, .int .i64 0, .string to] 131)] from hO)
 clear hO
 obtain ⟨z0_0, z0_1, z0_2, z0_3, z0_4⟩ := HO.out.c5 0 rfl
 go_enter Tryz.func165, Tryz.ntmps165
 go_wp2_with fail
 refine (o_still HO.out (vname_r HN.out HNS.out _)).mono ?_
 rintro e x2 ⟨rfl, hO, -⟩
 replace HO := Hi hO
 clear hO
 clear hx1 hbr z0_0 z0_1 z0_2 z0_3 z0_4
 obtain ⟨z0_0, z0_1, z0_2, z0_3, z0_4⟩ := HO.out.c5 0 rfl
 go_wp2_with fail
 refine (o_still HO.out (vname_r H4.out HTS.out _)).mono ?_
 rintro e x3 ⟨rfl, hO, -⟩
 replace HO := Hi hO
 clear hO
 clear z0_0 z0_1 z0_2 z0_3 z0_4
 obtain ⟨z0_0, z0_1, z0_2, z0_3, z0_4⟩ := HO.out.c5 0 rfl
 go_wp2
 all_goals (go_ret; exact ⟨rfl, HO.out.below⟩)
theorem vrec_ok {r : Rc} (hr : RcV r) (w : World) : Calls Tryz.prog 165 #[rcV r] w fun e w' => e = .returned (.bool true) ∧ Below w.heap.size w w' := by
 obtain ⟨nm, kd, tt, ad, to⟩ := r
 obtain ⟨h1, h2, h3, h4⟩ := hr
 have h2 : 0 ≤ tt := h2
 have h3 : tt ≤ 1000 := h3
 rcases h4 with ⟨rfl, h4, h5⟩ | ⟨rfl, h4, rfl⟩
 ·
  exact vrec1 nm tt ad to w h1 (by omega) (by omega) h4 h5
 ·
  exact vrec2 nm tt 0 to w h1 (by omega) (by omega) h4
structure Dm where
 id : Int
 an : Bool
 cd : Int
 nm : ByteArray
 kd : Int
 rs : List Rc
structure DmV (d : Dm) : Prop where
 id : 0 ≤ d.id ∧ d.id ≤ 65535
 cd : 0 ≤ d.cd ∧ d.cd ≤ 2
 nm : vname d.nm = true
 kd : d.kd = 1 ∨ d.kd = 2
 len : d.rs.length ≤ 8
 rs : ∀ r ∈ d.rs, RcV r
 an : d.an = false → d.cd = 0 ∧ d.rs = []
theorem valid_true1 (id cd : Int) (nm : ByteArray) (a : Option Addr) (n cap : Nat) (rs : List Rc) (w : World) (hr : w.ownsRow 0 131 5 (.slice a n cap) n (rs.flatMap cRc)) (hn : rs.length = n) (h1 : 0 ≤ id) (h2 : id ≤ 65535) (h3 : 0 ≤ cd) (h4 : cd ≤ 2) (hv : vname nm = true) (h8 : n ≤ 8) (hrs : ∀ r ∈ rs, RcV r) :
  Calls Tryz.prog 132 #[.agg #[.int .i64 id, .bool true, .int .i64 cd, .string nm, .int .i64 1, .slice a n cap]] w (crPost (.bool true) w) := by
 have HO := Hi (Own.nil w none0)
 have HR := Hi hr
 have HN := Hi hn
 have HV := Hi hv
 have HNS := Hi (show nm.size ≤ maxLen by have := vname_sz hv; unfold maxLen; omega)
 have HRS := Hi hrs
 have g1 : ¬ id < 0 := by omega
 have g2 : ¬ 65535 < id := by omega
 have g3 : ¬ cd < 0 := by omega
 have g4 : ¬ 2 < cd := by omega
 have g5 : ¬ (8 : Int) < (n : Int) := by omega
 clear hr hn hv hrs
 obtain ⟨x1, hx1, bd, hbd, hO⟩ := HO.out.allocE (.cells #[.int .i64 id, .bool true, .int .i64 cd, .string nm, .int .i64 1, .slice a n cap] 116)
 replace HO := Hi (show Own w none0 x1 [blkR bd (.cells #[.int .i64 id, .bool true, .int .i64 cd, .string nm, .int .i64 1, .slice a n cap] 116)] from hO)
 clear hO
 obtain ⟨z0_0, z0_1, z0_2, z0_3, z0_4, z0_5⟩ := HO.out.c6 0 rfl
 go_enter Tryz.func132, Tryz.ntmps132
 go_wp2_with fail
 refine (o_still HO.out (vname_r HV.out HNS.out _)).mono ?_
 rintro e x2 ⟨rfl, hO, -⟩
 replace HO := Hi hO
 clear hO
 clear hx1 hbd z0_0 z0_1 z0_2 z0_3 z0_4 z0_5
 obtain ⟨z0_0, z0_1, z0_2, z0_3, z0_4, z0_5⟩ := HO.out.c6 0 rfl
 go_wp2
 clear z0_0 z0_1 z0_2 z0_3 z0_4 z0_5
 go_loopw [44] (fun iv wr => ∃ k : Nat, k ≤ n ∧ iv = .int .i64 k ∧ Own w none0 wr [blkR bd (.cells #[.int .i64 id, .bool true, .int .i64 cd, .string nm, .int .i64 1, .slice a n cap] 116)]) (fun iv _ => n - (intOf iv).toNat)
 case atStart => exact ⟨0, Nat.zero_le _, rfl, HO.out⟩
 case round =>
  obtain ⟨k, hk, rfl, hO⟩ := hrel
  replace HO := Hi hO
  clear hO
  by_cases hlt : k < n
  ·
   have hdl : decide ((k : Int) < (n : Int)) = true := decide_eq_true (by omega)
   obtain ⟨g, rfl⟩ := row_some HR.out (by omega)
   have hkl : k < rs.length := by have := HN.out; omega
   have yc : ∀ q u, q < 5 → (cRc rs[k])[q]? = some u → wr.cell? ⟨g, k * 5 + q, none⟩ = some u := fun q u hq hu => keep HO.out.below ((row_cells HR.out).1 _ _ (by rw [flat_getR cRc 5 (fun _ => rfl) rs k hkl q hq]; exact hu))
   have hok := HRS.out rs[k] (List.getElem_mem hkl)
   generalize rs[k] = x at *
   have HVR := Hi (vrec_ok hok)
   clear hok hkl
   obtain ⟨rn, rk, rt, ra, ro⟩ := x
   have y0 : wr.cell? ⟨g, k * 5, none⟩ = some (.string rn) := yc 0 _ (by decide) rfl
   have y1 : wr.cell? ⟨g, k * 5 + 1, none⟩ = some (.int .i64 rk) := yc 1 _ (by decide) rfl
   have y2 : wr.cell? ⟨g, k * 5 + 2, none⟩ = some (.int .i64 rt) := yc 2 _ (by decide) rfl
   have y3 : wr.cell? ⟨g, k * 5 + 3, none⟩ = some (.int .i64 ra) := yc 3 _ (by decide) rfl
   have y4 : wr.cell? ⟨g, k * 5 + 4, none⟩ = some (.string ro) := yc 4 _ (by decide) rfl
   clear yc
   obtain ⟨x21, hx21, bx, hbx, hO⟩ := HO.out.allocE (.cells #[.string ⟨#[]⟩, .int .i64 0, .int .i64 0, .int .i64 0, .string ⟨#[]⟩] 131)
   replace HO := Hi (show Own w none0 x21 [blkR bd (.cells #[.int .i64 id, .bool true, .int .i64 cd, .string nm, .int .i64 1, .slice (some ⟨g, 0, none⟩) n cap] 116), blkR bx (.cells #[.string ⟨#[]⟩, .int .i64 0, .int .i64 0, .int .i64 0, .string ⟨#[]⟩] 131)] from hO)
   clear hO
   obtain ⟨x27, x32, x36, x39, x41, hx27, hx32, hx36, hx39, hx41, k1_0_22, lk1_0_22, k1_1_28, lk1_1_28, k1_2_33, lk1_2_33, k1_3_37, lk1_3_37, k1_4_40, lk1_4_40, hO⟩ := HO.out.steps5 1 rfl (.string rn) (.int .i64 rk) (.int .i64 rt) (.int .i64 ra) (.string ro)
   replace HO := Hi (show Own _ _ _ [_, blkR bx (.cells #[.string rn, .int .i64 rk, .int .i64 rt, .int .i64 ra, .string ro] 131)] from hO)
   clear hO
   obtain ⟨z1_0, z1_1, z1_2, z1_3, z1_4⟩ := HO.out.c5 1 rfl
   go_wp2_with fail
   refine (o_still HO.out (HVR.out _)).mono ?_
   rintro e x42 ⟨rfl, hO, -⟩
   replace HO := Hi hO
   clear hO
   clear y0 y1 y2 y3 y4 hx21 hbx k1_0_22 lk1_0_22 hx27 k1_1_28 lk1_1_28 hx32 k1_2_33 lk1_2_33 hx36 k1_3_37 lk1_3_37 hx39 k1_4_40 lk1_4_40 hx41 z1_0 z1_1 z1_2 z1_3 z1_4
   go_wp2
   go_roundw
   case rel => exact ⟨k + 1, by omega, by go_num, HO.out.take 1⟩
   case measure => simp [intOf]; omega
  ·
   obtain rfl : k = n := by omega
   have hdl : decide ((k : Int) < (k : Int)) = false := decide_eq_false (by omega)
   have z0_1 : wr.cell? _ = some (.bool true) := HO.out.cell 0 rfl 1 rfl
   have z0_2 : wr.cell? _ = some (.int .i64 cd) := HO.out.cell 0 rfl 2 rfl
   have z0_5 : wr.cell? _ = some (.slice a k cap) := HO.out.cell 0 rfl 5 rfl
   go_wp2
   go_ret
   exact ⟨rfl, HO.out.below⟩
theorem valid_true2 (id cd : Int) (nm : ByteArray) (a : Option Addr) (n cap : Nat) (rs : List Rc) (w : World) (hr : w.ownsRow 0 131 5 (.slice a n cap) n (rs.flatMap cRc)) (hn : rs.length = n) (h1 : 0 ≤ id) (h2 : id ≤ 65535) (h3 : 0 ≤ cd) (h4 : cd ≤ 2) (hv : vname nm = true) (h8 : n ≤ 8) (hrs : ∀ r ∈ rs, RcV r) :
  Calls Tryz.prog 132 #[.agg #[.int .i64 id, .bool true, .int .i64 cd, .string nm, .int .i64 2, .slice a n cap]] w (crPost (.bool true) w) := by
 have HO := Hi (Own.nil w none0)
 have HR := Hi hr
 have HN := Hi hn
 have HV := Hi hv
 have HNS := Hi (show nm.size ≤ maxLen by have := vname_sz hv; unfold maxLen; omega)
 have HRS := Hi hrs
 have g1 : ¬ id < 0 := by omega
 have g2 : ¬ 65535 < id := by omega
 have g3 : ¬ cd < 0 := by omega
 have g4 : ¬ 2 < cd := by omega
 have g5 : ¬ (8 : Int) < (n : Int) := by omega
 clear hr hn hv hrs
 obtain ⟨x1, hx1, bd, hbd, hO⟩ := HO.out.allocE (.cells #[.int .i64 id, .bool true, .int .i64 cd, .string nm, .int .i64 2, .slice a n cap] 116)
 replace HO := Hi (show Own w none0 x1 [blkR bd (.cells #[.int .i64 id, .bool true, .int .i64 cd, .string nm, .int .i64 2, .slice a n cap] 116)] from hO)
 clear hO
 obtain ⟨z0_0, z0_1, z0_2, z0_3, z0_4, z0_5⟩ := HO.out.c6 0 rfl
 go_enter Tryz.func132, Tryz.ntmps132
 go_wp2_with fail
 refine (o_still HO.out (vname_r HV.out HNS.out _)).mono ?_
 rintro e x2 ⟨rfl, hO, -⟩
 replace HO := Hi hO
 clear hO
 clear hx1 hbd z0_0 z0_1 z0_2 z0_3 z0_4 z0_5
 obtain ⟨z0_0, z0_1, z0_2, z0_3, z0_4, z0_5⟩ := HO.out.c6 0 rfl
 go_wp2
 clear z0_0 z0_1 z0_2 z0_3 z0_4 z0_5
 go_loopw [44] (fun iv wr => ∃ k : Nat, k ≤ n ∧ iv = .int .i64 k ∧ Own w none0 wr [blkR bd (.cells #[.int .i64 id, .bool true, .int .i64 cd, .string nm, .int .i64 2, .slice a n cap] 116)]) (fun iv _ => n - (intOf iv).toNat)
 case atStart => exact ⟨0, Nat.zero_le _, rfl, HO.out⟩
 case round =>
  obtain ⟨k, hk, rfl, hO⟩ := hrel
  replace HO := Hi hO
  clear hO
  by_cases hlt : k < n
  ·
   have hdl : decide ((k : Int) < (n : Int)) = true := decide_eq_true (by omega)
   obtain ⟨g, rfl⟩ := row_some HR.out (by omega)
   have hkl : k < rs.length := by have := HN.out; omega
   have yc : ∀ q u, q < 5 → (cRc rs[k])[q]? = some u → wr.cell? ⟨g, k * 5 + q, none⟩ = some u := fun q u hq hu => keep HO.out.below ((row_cells HR.out).1 _ _ (by rw [flat_getR cRc 5 (fun _ => rfl) rs k hkl q hq]; exact hu))
   have hok := HRS.out rs[k] (List.getElem_mem hkl)
   generalize rs[k] = x at *
   have HVR := Hi (vrec_ok hok)
   clear hok hkl
   obtain ⟨rn, rk, rt, ra, ro⟩ := x
   have y0 : wr.cell? ⟨g, k * 5, none⟩ = some (.string rn) := yc 0 _ (by decide) rfl
   have y1 : wr.cell? ⟨g, k * 5 + 1, none⟩ = some (.int .i64 rk) := yc 1 _ (by decide) rfl
   have y2 : wr.cell? ⟨g, k * 5 + 2, none⟩ = some (.int .i64 rt) := yc 2 _ (by decide) rfl
   have y3 : wr.cell? ⟨g, k * 5 + 3, none⟩ = some (.int .i64 ra) := yc 3 _ (by decide) rfl
   have y4 : wr.cell? ⟨g, k * 5 + 4, none⟩ = some (.string ro) := yc 4 _ (by decide) rfl
   clear yc
   obtain ⟨x21, hx21, bx, hbx, hO⟩ := HO.out.allocE (.cells #[.string ⟨#[]⟩, .int .i64 0, .int .i64 0, .int .i64 0, .string ⟨#[]⟩] 131)
   replace HO := Hi (show Own w none0 x21 [blkR bd (.cells #[.int .i64 id, .bool true, .int .i64 cd, .string nm, .int .i64 2, .slice (some ⟨g, 0, none⟩) n cap] 116), blkR bx (.cells #[.string ⟨#[]⟩, .int .i64 0, .int .i64 0, .int .i64 0, .string ⟨#[]⟩] 131)] from hO)
   clear hO
   obtain ⟨x27, x32, x36, x39, x41, hx27, hx32, hx36, hx39, hx41, k1_0_22, lk1_0_22, k1_1_28, lk1_1_28, k1_2_33, lk1_2_33, k1_3_37, lk1_3_37, k1_4_40, lk1_4_40, hO⟩ := HO.out.steps5 1 rfl (.string rn) (.int .i64 rk) (.int .i64 rt) (.int .i64 ra) (.string ro)
   replace HO := Hi (show Own _ _ _ [_, blkR bx (.cells #[.string rn, .int .i64 rk, .int .i64 rt, .int .i64 ra, .string ro] 131)] from hO)
   clear hO
   obtain ⟨z1_0, z1_1, z1_2, z1_3, z1_4⟩ := HO.out.c5 1 rfl
   go_wp2_with fail
   refine (o_still HO.out (HVR.out _)).mono ?_
   rintro e x42 ⟨rfl, hO, -⟩
   replace HO := Hi hO
   clear hO
   clear y0 y1 y2 y3 y4 hx21 hbx k1_0_22 lk1_0_22 hx27 k1_1_28 lk1_1_28 hx32 k1_2_33 lk1_2_33 hx36 k1_3_37 lk1_3_37 hx39 k1_4_40 lk1_4_40 hx41 z1_0 z1_1 z1_2 z1_3 z1_4
   go_wp2
   go_roundw
   case rel => exact ⟨k + 1, by omega, by go_num, HO.out.take 1⟩
   case measure => simp [intOf]; omega
  ·
   obtain rfl : k = n := by omega
   have hdl : decide ((k : Int) < (k : Int)) = false := decide_eq_false (by omega)
   have z0_1 : wr.cell? _ = some (.bool true) := HO.out.cell 0 rfl 1 rfl
   have z0_2 : wr.cell? _ = some (.int .i64 cd) := HO.out.cell 0 rfl 2 rfl
   have z0_5 : wr.cell? _ = some (.slice a k cap) := HO.out.cell 0 rfl 5 rfl
   go_wp2
   go_ret
   exact ⟨rfl, HO.out.below⟩
theorem valid_false1 (id cd : Int) (nm : ByteArray) (a : Option Addr) (n cap : Nat) (rs : List Rc) (w : World) (hr : w.ownsRow 0 131 5 (.slice a n cap) n (rs.flatMap cRc)) (hn : rs.length = n) (h1 : 0 ≤ id) (h2 : id ≤ 65535) (h3 : 0 ≤ cd) (h4 : cd ≤ 2) (hv : vname nm = true) (h8 : n ≤ 8) (hrs : ∀ r ∈ rs, RcV r) (hz : cd = 0) (h0 : n = 0) :
  Calls Tryz.prog 132 #[.agg #[.int .i64 id, .bool false, .int .i64 cd, .string nm, .int .i64 1, .slice a n cap]] w (crPost (.bool true) w) := by
 have HO := Hi (Own.nil w none0)
 have HR := Hi hr
 have HN := Hi hn
 have HV := Hi hv
 have HNS := Hi (show nm.size ≤ maxLen by have := vname_sz hv; unfold maxLen; omega)
 have HRS := Hi hrs
 have g1 : ¬ id < 0 := by omega
 have g2 : ¬ 65535 < id := by omega
 have g3 : ¬ cd < 0 := by omega
 have g4 : ¬ 2 < cd := by omega
 have g5 : ¬ (8 : Int) < (n : Int) := by omega
 subst hz h0
 clear hr hn hv hrs
 obtain ⟨x1, hx1, bd, hbd, hO⟩ := HO.out.allocE (.cells #[.int .i64 id, .bool false, .int .i64 0, .string nm, .int .i64 1, .slice a 0 cap] 116)
 replace HO := Hi (show Own w none0 x1 [blkR bd (.cells #[.int .i64 id, .bool false, .int .i64 0, .string nm, .int .i64 1, .slice a 0 cap] 116)] from hO)
 clear hO
 obtain ⟨z0_0, z0_1, z0_2, z0_3, z0_4, z0_5⟩ := HO.out.c6 0 rfl
 go_enter Tryz.func132, Tryz.ntmps132
 go_wp2_with fail
 refine (o_still HO.out (vname_r HV.out HNS.out _)).mono ?_
 rintro e x2 ⟨rfl, hO, -⟩
 replace HO := Hi hO
 clear hO
 clear hx1 hbd z0_0 z0_1 z0_2 z0_3 z0_4 z0_5
 obtain ⟨z0_0, z0_1, z0_2, z0_3, z0_4, z0_5⟩ := HO.out.c6 0 rfl
 go_wp2
 clear z0_0 z0_1 z0_2 z0_3 z0_4 z0_5
 go_loopw [44] (fun iv wr => ∃ k : Nat, k ≤ 0 ∧ iv = .int .i64 k ∧ Own w none0 wr [blkR bd (.cells #[.int .i64 id, .bool false, .int .i64 0, .string nm, .int .i64 1, .slice a 0 cap] 116)]) (fun iv _ => 0 - (intOf iv).toNat)
 case atStart => exact ⟨0, Nat.zero_le _, rfl, HO.out⟩
 case round =>
  obtain ⟨k, hk, rfl, hO⟩ := hrel
  replace HO := Hi hO
  clear hO
  obtain rfl : k = 0 := by omega
  have hdl : decide (((0 : Nat) : Int) < ((0 : Nat) : Int)) = false := by decide
  have z0_1 : wr.cell? _ = some (.bool false) := HO.out.cell 0 rfl 1 rfl
  have z0_2 : wr.cell? _ = some (.int .i64 0) := HO.out.cell 0 rfl 2 rfl
  have z0_5 : wr.cell? _ = some (.slice a 0 cap) := HO.out.cell 0 rfl 5 rfl
  go_wp2
  go_ret
  exact ⟨rfl, HO.out.below⟩
theorem valid_false2 (id cd : Int) (nm : ByteArray) (a : Option Addr) (n cap : Nat) (rs : List Rc) (w : World) (hr : w.ownsRow 0 131 5 (.slice a n cap) n (rs.flatMap cRc)) (hn : rs.length = n) (h1 : 0 ≤ id) (h2 : id ≤ 65535) (h3 : 0 ≤ cd) (h4 : cd ≤ 2) (hv : vname nm = true) (h8 : n ≤ 8) (hrs : ∀ r ∈ rs, RcV r) (hz : cd = 0) (h0 : n = 0) :
  Calls Tryz.prog 132 #[.agg #[.int .i64 id, .bool false, .int .i64 cd, .string nm, .int .i64 2, .slice a n cap]] w (crPost (.bool true) w) := by
 have HO := Hi (Own.nil w none0)
 have HR := Hi hr
 have HN := Hi hn
 have HV := Hi hv
 have HNS := Hi (show nm.size ≤ maxLen by have := vname_sz hv; unfold maxLen; omega)
 have HRS := Hi hrs
 have g1 : ¬ id < 0 := by omega
 have g2 : ¬ 65535 < id := by omega
 have g3 : ¬ cd < 0 := by omega
 have g4 : ¬ 2 < cd := by omega
 have g5 : ¬ (8 : Int) < (n : Int) := by omega
 subst hz h0
 clear hr hn hv hrs
 obtain ⟨x1, hx1, bd, hbd, hO⟩ := HO.out.allocE (.cells #[.int .i64 id, .bool false, .int .i64 0, .string nm, .int .i64 2, .slice a 0 cap] 116)
 replace HO := Hi (show Own w none0 x1 [blkR bd (.cells #[.int .i64 id, .bool false, .int .i64 0, .string nm, .int .i64 2, .slice a 0 cap] 116)] from hO)
 clear hO
 obtain ⟨z0_0, z0_1, z0_2, z0_3, z0_4, z0_5⟩ := HO.out.c6 0 rfl
 go_enter Tryz.func132, Tryz.ntmps132
 go_wp2_with fail
 refine (o_still HO.out (vname_r HV.out HNS.out _)).mono ?_
 rintro e x2 ⟨rfl, hO, -⟩
 replace HO := Hi hO
 clear hO
 clear hx1 hbd z0_0 z0_1 z0_2 z0_3 z0_4 z0_5
 obtain ⟨z0_0, z0_1, z0_2, z0_3, z0_4, z0_5⟩ := HO.out.c6 0 rfl
 go_wp2
 clear z0_0 z0_1 z0_2 z0_3 z0_4 z0_5
 go_loopw [44] (fun iv wr => ∃ k : Nat, k ≤ 0 ∧ iv = .int .i64 k ∧ Own w none0 wr [blkR bd (.cells #[.int .i64 id, .bool false, .int .i64 0, .string nm, .int .i64 2, .slice a 0 cap] 116)]) (fun iv _ => 0 - (intOf iv).toNat)
 case atStart => exact ⟨0, Nat.zero_le _, rfl, HO.out⟩
 case round =>
  obtain ⟨k, hk, rfl, hO⟩ := hrel
  replace HO := Hi hO
  clear hO
  obtain rfl : k = 0 := by omega
  have hdl : decide (((0 : Nat) : Int) < ((0 : Nat) : Int)) = false := by decide
  have z0_1 : wr.cell? _ = some (.bool false) := HO.out.cell 0 rfl 1 rfl
  have z0_2 : wr.cell? _ = some (.int .i64 0) := HO.out.cell 0 rfl 2 rfl
  have z0_5 : wr.cell? _ = some (.slice a 0 cap) := HO.out.cell 0 rfl 5 rfl
  go_wp2
  go_ret
  exact ⟨rfl, HO.out.below⟩
theorem valid_ok {id cd : Int} {an : Bool} {kd : Int} {a : Option Addr} {n cap : Nat} (w : World) (hr : w.ownsRow 0 131 5 (.slice a n cap) n (rs.flatMap cRc)) (hn : rs.length = n) (hd : DmV ⟨id, an, cd, nm, kd, rs⟩) :
  Calls Tryz.prog 132 #[.agg #[.int .i64 id, .bool an, .int .i64 cd, .string nm, .int .i64 kd, .slice a n cap]] w fun e w' => e = .returned (.bool true) ∧ Below w.heap.size w w' := by
 obtain ⟨⟨h1, h2⟩, ⟨h3, h4⟩, h5, h6, h7, h8, h9⟩ := hd
 subst hn
 cases an with
 | true =>
  rcases h6 with rfl | rfl
  ·
   exact valid_true1 id cd nm a _ cap rs w hr rfl h1 h2 h3 h4 h5 h7 h8
  ·
   exact valid_true2 id cd nm a _ cap rs w hr rfl h1 h2 h3 h4 h5 h7 h8
 | false =>
  obtain ⟨g1, g2⟩ := h9 rfl
  have g3 : rs.length = 0 := by have g4 : rs = [] := g2; rw [g4]; rfl
  rcases h6 with rfl | rfl
  ·
   exact valid_false1 id cd nm a _ cap rs w hr rfl h1 h2 h3 h4 h5 h7 h8 g1 g3
  ·
   exact valid_false2 id cd nm a _ cap rs w hr rfl h1 h2 h3 h4 h5 h7 h8 g1 g3
def b01 (b : Bool) : Int := if b then 1 else 0
def encHd (id : Int) (an : Bool) (cd : Int) (nm : ByteArray) (kd : Int) (n : Nat) : List UInt8 := beN 2 id ++ beN 1 (b01 an) ++ beN 1 cd ++ beN 1 kd ++ encNm nm ++ beN 1 (n : Int)
def encM (d : Dm) : List UInt8 := encHd d.id d.an d.cd d.nm d.kd d.rs.length ++ d.rs.flatMap encRec
theorem encHd_len {id : Int} {an : Bool} {cd : Int} {kd : Int} {n : Nat} (h : vname nm = true) : (encHd id an cd nm kd n).length ≤ 70 := by
 have := vname_sz h
 unfold encHd
 simp only [List.length_append, beN_len, encNm_len]; omega
theorem encRs_len : ∀ (rs : List Rc), (∀ r ∈ rs, RcV r) → (rs.flatMap encRec).length ≤ rs.length * 127
 | [], _ => by simp
 | r :: rs, h => by
  have h1 := encRec_len (h r (List.mem_cons_self ..))
  have h2 := encRs_len rs fun x hx => h x (List.mem_cons_of_mem _ hx)
  rw [List.flatMap_cons, List.length_append, List.length_cons, Nat.add_mul]; omega
theorem resW_flag {fl : Bool} (h : Own w0 D w L) (i : Nat) (hi : L[i]? = some (resW b fl bs)) : w.cell? ⟨b, 2, none⟩ = some (.bool fl) := by
 obtain ⟨F, hF, _⟩ := h.step hi
 obtain ⟨p, v, hp, hO⟩ := openW (Own.one hF)
 exact hO.cell 0 rfl 2 rfl
theorem newW (h : Own w0 D w L) : Own w0 D (w.alloc (.cells #[.pointer none, .slice none 0 0, .bool false] 224)) (L ++ [resW w.heap.size false []]) := by
 have h0 := (Own.nil w none0).alloc (.cells #[.pointer none, .slice none 0 0, .bool false] 224)
 have h1 := h0.rowNew 5 1
 have h2 : Own w none0 (w.alloc (.cells #[.pointer none, .slice none 0 0, .bool false] 224)) [resW w.heap.size false []] := shutW (L := []) (.inl rfl) h1
 obtain ⟨F, hF, hb, _⟩ := h2.step (i := 0) rfl
 exact h.push hF (fun b h => (hb b h).elim (fun h => h.elim) id) h2.below
theorem id_dm {d : Dm} (h : DmV d) : DmV d := h
theorem row_stayB {w w' : World} {E sz n : Nat} {v : Value} {xs : List Value} (h : w.ownsRow 0 E sz v n xs) (hb : Below w.heap.size w w') : w'.ownsRow 0 E sz v n xs := (Upd.of_below (F := fun _ => False) hb).row h (fun _ _ h => h)
theorem encode_true (id cd : Int) (nm : ByteArray) (kd : Int) (a : Option Addr) (n cap : Nat) (rs : List Rc) (w : World) (hr : w.ownsRow 0 131 5 (.slice a n cap) n (rs.flatMap cRc)) (hn : rs.length = n) (hd : DmV ⟨id, true, cd, nm, kd, rs⟩) :
  Calls Tryz.prog 98 #[.agg #[.int .i64 id, .bool true, .int .i64 cd, .string nm, .int .i64 kd, .slice a n cap]] w (crPost (.tuple #[.string ⟨(encM ⟨id, true, cd, nm, kd, rs⟩).toArray⟩, .int .i64 0]) w) := by
 have HO := Hi (Own.nil w none0)
 have HR := Hi hr
 have HN := Hi hn
 have HD := Hi hd
 obtain ⟨⟨h1, h2⟩, ⟨h3, h4⟩, h5, h6, h7, h8, h9⟩ := id_dm hd
 have h1 : 0 ≤ id := h1
 have h2 : id ≤ 65535 := h2
 have h3 : 0 ≤ cd := h3
 have h4 : cd ≤ 2 := h4
 have h5 : vname nm = true := h5
 have h6 : kd = 1 ∨ kd = 2 := h6
 have h7 : rs.length ≤ 8 := h7
 have HV := Hi h5
 have HRS := Hi h8
 have hk : 0 ≤ kd ∧ kd < 256 := by rcases h6 with h | h <;> omega
 obtain ⟨hk0, hk1⟩ := hk
 have hnn : n ≤ 8 := by omega
 have hln := encNm_len nm
 have hsz := vname_sz h5
 have HHL := Hi (encHd_len (id := id) (an := true) (cd := cd) (nm := nm) (kd := kd) (n := n) h5)
 have HFV := Hi (show encM ⟨id, true, cd, nm, kd, rs⟩ = encHd id true cd nm kd n ++ rs.flatMap encRec by unfold encM; rw [← hn])
 have HHE := Hi (show encHd id true cd nm kd n = [] ++ beN 2 id ++ beN 1 1 ++ beN 1 cd ++ beN 1 kd ++ encNm nm ++ beN 1 (n : Int) from rfl)
 clear hr hn hd h5 h6 h8 h9
 obtain ⟨x1, hx1, bd, hbd, hO⟩ := HO.out.allocE (.cells #[.int .i64 id, .bool true, .int .i64 cd, .string nm, .int .i64 kd, .slice a n cap] 116)
 replace HO := Hi (show Own w none0 x1 [blkR bd (.cells #[.int .i64 id, .bool true, .int .i64 cd, .string nm, .int .i64 kd, .slice a n cap] 116)] from hO)
 clear hO
 obtain ⟨z0_0, z0_1, z0_2, z0_3, z0_4, z0_5⟩ := HO.out.c6 0 rfl
 go_enter Tryz.func98, Tryz.ntmps98
 go_wp2_with fail
 refine (o_still HO.out (valid_ok _ (row_stayB HR.out HO.out.below) HN.out HD.out)).mono ?_
 rintro e x2 ⟨rfl, hO, -⟩
 replace HO := Hi hO
 clear hO
 clear hx1 hbd z0_0 z0_1 z0_2 z0_3 z0_4 z0_5
 obtain ⟨z0_0, z0_1, z0_2, z0_3, z0_4, z0_5⟩ := HO.out.c6 0 rfl
 obtain ⟨x3, hx3⟩ : ∃ y, x2.alloc (.cells #[.pointer none, .slice none 0 0, .bool false] 224) = y := ⟨_, rfl⟩
 obtain ⟨bw, hbw⟩ : ∃ y, x2.heap.size = y := ⟨_, rfl⟩
 have hO := newW HO.out
 rw [hx3, hbw] at hO
 replace HO := Hi (show Own _ _ _ [_, resW bw false []] from hO)
 clear hO
 obtain ⟨z0_0t, z0_1t, z0_2t, z0_3t, z0_4t, z0_5t⟩ := HO.out.c6 0 rfl
 go_wp2_with fail
 refine (wnum2 id h1 (by omega) HO.out 1 rfl (by simp)).mono ?_
 rintro e x4 ⟨rfl, hO, -⟩
 replace HO := Hi (show Own _ _ _ [_, resW bw false ([] ++ beN 2 id)] from hO)
 clear hO
 clear z0_0 z0_1 z0_2 z0_3 z0_4 z0_5 hx3 hbw z0_0t z0_1t z0_2t z0_3t z0_4t z0_5t
 obtain ⟨z0_0, z0_1, z0_2, z0_3, z0_4, z0_5⟩ := HO.out.c6 0 rfl
 go_wp2_with fail
 refine (wnum1 1 (by omega) (by omega) HO.out 1 rfl (by simp only [List.length_append, List.length_nil, beN_len]; omega)).mono ?_
 rintro e x5 ⟨rfl, hO, -⟩
 replace HO := Hi (show Own _ _ _ [_, resW bw false ([] ++ beN 2 id ++ beN 1 1)] from hO)
 clear hO
 clear z0_0 z0_1 z0_2 z0_3 z0_4 z0_5
 obtain ⟨z0_0, z0_1, z0_2, z0_3, z0_4, z0_5⟩ := HO.out.c6 0 rfl
 go_wp2_with fail
 refine (wnum1 cd h3 (by omega) HO.out 1 rfl (by simp only [List.length_append, List.length_nil, beN_len]; omega)).mono ?_
 rintro e x6 ⟨rfl, hO, -⟩
 replace HO := Hi (show Own _ _ _ [_, resW bw false ([] ++ beN 2 id ++ beN 1 1 ++ beN 1 cd)] from hO)
 clear hO
 clear z0_0 z0_1 z0_2 z0_3 z0_4 z0_5
 obtain ⟨z0_0, z0_1, z0_2, z0_3, z0_4, z0_5⟩ := HO.out.c6 0 rfl
 go_wp2_with fail
 refine (wnum1 kd hk0 hk1 HO.out 1 rfl (by simp only [List.length_append, List.length_nil, beN_len]; omega)).mono ?_
 rintro e x7 ⟨rfl, hO, -⟩
 replace HO := Hi (show Own _ _ _ [_, resW bw false ([] ++ beN 2 id ++ beN 1 1 ++ beN 1 cd ++ beN 1 kd)] from hO)
 clear hO
 clear z0_0 z0_1 z0_2 z0_3 z0_4 z0_5
 obtain ⟨z0_0, z0_1, z0_2, z0_3, z0_4, z0_5⟩ := HO.out.c6 0 rfl
 go_wp2_with fail
 refine (wname nm HV.out HO.out 1 rfl (by simp only [List.length_append, List.length_nil, beN_len]; omega)).mono ?_
 rintro e x8 ⟨rfl, hO, -⟩
 replace HO := Hi (show Own _ _ _ [_, resW bw false ([] ++ beN 2 id ++ beN 1 1 ++ beN 1 cd ++ beN 1 kd ++ encNm nm)] from hO)
 clear hO
 clear z0_0 z0_1 z0_2 z0_3 z0_4 z0_5
 obtain ⟨z0_0, z0_1, z0_2, z0_3, z0_4, z0_5⟩ := HO.out.c6 0 rfl
 go_wp2_with fail
 refine (wnum1 (n : Int) (by omega) (by omega) HO.out 1 rfl (by simp only [List.length_append, List.length_nil, beN_len]; omega)).mono ?_
 rintro e x9 ⟨rfl, hO, -⟩
 replace HO := Hi (show Own _ _ _ [_, resW bw false ([] ++ beN 2 id ++ beN 1 1 ++ beN 1 cd ++ beN 1 kd ++ encNm nm ++ beN 1 (n : Int))] from hO)
 clear hO
 clear z0_0 z0_1 z0_2 z0_3 z0_4 z0_5
 obtain ⟨z0_0, z0_1, z0_2, z0_3, z0_4, z0_5⟩ := HO.out.c6 0 rfl
 rw [← HHE.out] at HO
 obtain ⟨hd, hhd⟩ : ∃ y, encHd id true cd nm kd n = y := ⟨_, rfl⟩
 rw [hhd] at HO HHL HFV
 have HFN := Hi (show hd ≠ [] by rw [← hhd]; unfold encHd beN; simp)
 clear hhd HHE
 go_wp2
 clear z0_0 z0_1 z0_2 z0_3 z0_4 z0_5
 have HO := Hi (show Own w none0 x9 [blkR bd (.cells #[.int .i64 id, .bool true, .int .i64 cd, .string nm, .int .i64 kd, .slice a n cap] 116), resW bw false (hd ++ (rs.take 0).flatMap encRec)] by have := HO.out; simpa using this)
 go_loopw [34] (fun iv wr => ∃ k : Nat, k ≤ n ∧ iv = .int .i64 k ∧ Own w none0 wr [blkR bd (.cells #[.int .i64 id, .bool true, .int .i64 cd, .string nm, .int .i64 kd, .slice a n cap] 116), resW bw false (hd ++ (rs.take k).flatMap encRec)]) (fun iv _ => n - (intOf iv).toNat)
 case atStart => exact ⟨0, Nat.zero_le _, rfl, HO.out⟩
 case round =>
  obtain ⟨k, hk, rfl, hO⟩ := hrel
  replace HO := Hi hO
  clear hO
  by_cases hlt : k < n
  ·
   have hdl : decide ((k : Int) < (n : Int)) = true := decide_eq_true (by omega)
   obtain ⟨g, rfl⟩ := row_some HR.out (by omega)
   have hkl : k < rs.length := by have := HN.out; omega
   have yc : ∀ q u, q < 5 → (cRc rs[k])[q]? = some u → wr.cell? ⟨g, k * 5 + q, none⟩ = some u := fun q u hq hu => keep HO.out.below ((row_cells HR.out).1 _ _ (by rw [flat_getR cRc 5 (fun _ => rfl) rs k hkl q hq]; exact hu))
   have hok := HRS.out rs[k] (List.getElem_mem hkl)
   have HTK := Hi (show hd ++ (rs.take (k + 1)).flatMap encRec = hd ++ (rs.take k).flatMap encRec ++ encRec rs[k] by rw [List.take_succ_eq_append_getElem hkl, List.flatMap_append, ← List.append_assoc]; simp)
   have hal : (hd ++ (rs.take k).flatMap encRec).length ≤ 1100 := by
    rw [List.length_append]
    have h1 := encRs_len (rs.take k) fun r hr => HRS.out r (List.mem_of_mem_take hr)
    have h2 : (rs.take k).length ≤ 8 := by rw [List.length_take]; omega
    have h3 := Nat.mul_le_mul_right 127 h2
    have := HHL.out
    omega
   generalize hd ++ (rs.take k).flatMap encRec = acc at *
   generalize rs[k] = x at *
   have HOK := Hi hok
   clear hok hkl
   obtain ⟨rn, rk, rt, ra, ro⟩ := x
   have y0 : wr.cell? ⟨g, k * 5, none⟩ = some (.string rn) := yc 0 _ (by decide) rfl
   have y1 : wr.cell? ⟨g, k * 5 + 1, none⟩ = some (.int .i64 rk) := yc 1 _ (by decide) rfl
   have y2 : wr.cell? ⟨g, k * 5 + 2, none⟩ = some (.int .i64 rt) := yc 2 _ (by decide) rfl
   have y3 : wr.cell? ⟨g, k * 5 + 3, none⟩ = some (.int .i64 ra) := yc 3 _ (by decide) rfl
   have y4 : wr.cell? ⟨g, k * 5 + 4, none⟩ = some (.string ro) := yc 4 _ (by decide) rfl
   clear yc
   obtain ⟨x41, hx41, bx, hbx, hO⟩ := HO.out.allocE (.cells #[.string ⟨#[]⟩, .int .i64 0, .int .i64 0, .int .i64 0, .string ⟨#[]⟩] 131)
   replace HO := Hi (show Own w none0 x41 [blkR bd (.cells #[.int .i64 id, .bool true, .int .i64 cd, .string nm, .int .i64 kd, .slice (some ⟨g, 0, none⟩) n cap] 116), resW bw false acc, blkR bx (.cells #[.string ⟨#[]⟩, .int .i64 0, .int .i64 0, .int .i64 0, .string ⟨#[]⟩] 131)] from hO)
   clear hO
   obtain ⟨x47, x52, x56, x59, x61, hx47, hx52, hx56, hx59, hx61, k2_0_42, lk2_0_42, k2_1_48, lk2_1_48, k2_2_53, lk2_2_53, k2_3_57, lk2_3_57, k2_4_60, lk2_4_60, hO⟩ := HO.out.steps5 2 rfl (.string rn) (.int .i64 rk) (.int .i64 rt) (.int .i64 ra) (.string ro)
   replace HO := Hi (show Own _ _ _ [_, _, blkR bx (.cells #[.string rn, .int .i64 rk, .int .i64 rt, .int .i64 ra, .string ro] 131)] from hO)
   clear hO
   obtain ⟨z2_0, z2_1, z2_2, z2_3, z2_4⟩ := HO.out.c5 2 rfl
   go_wp2_with fail
   refine (wrec ⟨rn, rk, rt, ra, ro⟩ HOK.out HO.out 1 rfl (by omega)).mono ?_
   rintro e x62 ⟨rfl, hO, -⟩
   replace HO := Hi (show Own _ _ _ [_, resW bw false (acc ++ encRec ⟨rn, rk, rt, ra, ro⟩), _] from hO)
   clear hO
   clear y0 y1 y2 y3 y4 hx41 hbx k2_0_42 lk2_0_42 hx47 k2_1_48 lk2_1_48 hx52 k2_2_53 lk2_2_53 hx56 k2_3_57 lk2_3_57 hx59 k2_4_60 lk2_4_60 hx61 z2_0 z2_1 z2_2 z2_3 z2_4
   go_wp2
   go_roundw
   case rel => exact ⟨k + 1, by omega, by go_num, by rw [HTK.out]; exact HO.out.take 2⟩
   case measure => simp [intOf]; omega
  ·
   obtain rfl : k = n := by omega
   have hdl : decide ((k : Int) < (k : Int)) = false := decide_eq_false (by omega)
   have hO := HO.out
   rw [show rs.take k = rs by rw [← HN.out, List.take_length], ← HFV.out] at hO
   replace HO := Hi hO
   clear hO
   have cf := resW_flag HO.out 1 rfl
   have hne : encM ⟨id, true, cd, nm, kd, rs⟩ ≠ [] := by rw [HFV.out]; intro h; have := HFN.out; simp at h; exact this h.1
   have hlen : (encM ⟨id, true, cd, nm, kd, rs⟩).length ≤ 1000000 := by
    rw [HFV.out, List.length_append]
    have h1 := encRs_len rs HRS.out
    have h2 := HN.out
    have := HHL.out
    omega
   have HNE := Hi hne
   have HLE := Hi hlen
   clear hne hlen
   go_wp2_with fail
   refine (bStringW HO.out 1 rfl HLE.out HNE.out).mono ?_
   rintro e x99 ⟨rfl, hO, -⟩
   clear cf
   go_wp2
   go_ret2
   exact ⟨rfl, hO.below⟩
theorem encode_false (id cd : Int) (nm : ByteArray) (kd : Int) (a : Option Addr) (n cap : Nat) (rs : List Rc) (w : World) (hr : w.ownsRow 0 131 5 (.slice a n cap) n (rs.flatMap cRc)) (hn : rs.length = n) (hd : DmV ⟨id, false, cd, nm, kd, rs⟩) :
  Calls Tryz.prog 98 #[.agg #[.int .i64 id, .bool false, .int .i64 cd, .string nm, .int .i64 kd, .slice a n cap]] w (crPost (.tuple #[.string ⟨(encM ⟨id, false, cd, nm, kd, rs⟩).toArray⟩, .int .i64 0]) w) := by
 have HO := Hi (Own.nil w none0)
 have HR := Hi hr
 have HN := Hi hn
 have HD := Hi hd
 obtain ⟨⟨h1, h2⟩, ⟨h3, h4⟩, h5, h6, h7, h8, h9⟩ := id_dm hd
 have h1 : 0 ≤ id := h1
 have h2 : id ≤ 65535 := h2
 have h3 : 0 ≤ cd := h3
 have h4 : cd ≤ 2 := h4
 have h5 : vname nm = true := h5
 have h6 : kd = 1 ∨ kd = 2 := h6
 have h7 : rs.length ≤ 8 := h7
 have HV := Hi h5
 have HRS := Hi h8
 have hk : 0 ≤ kd ∧ kd < 256 := by rcases h6 with h | h <;> omega
 obtain ⟨hk0, hk1⟩ := hk
 have hnn : n ≤ 8 := by omega
 have hln := encNm_len nm
 have hsz := vname_sz h5
 have HHL := Hi (encHd_len (id := id) (an := false) (cd := cd) (nm := nm) (kd := kd) (n := n) h5)
 have HFV := Hi (show encM ⟨id, false, cd, nm, kd, rs⟩ = encHd id false cd nm kd n ++ rs.flatMap encRec by unfold encM; rw [← hn])
 have HHE := Hi (show encHd id false cd nm kd n = [] ++ beN 2 id ++ beN 1 0 ++ beN 1 cd ++ beN 1 kd ++ encNm nm ++ beN 1 (n : Int) from rfl)
 clear hr hn hd h5 h6 h8 h9
 obtain ⟨x1, hx1, bd, hbd, hO⟩ := HO.out.allocE (.cells #[.int .i64 id, .bool false, .int .i64 cd, .string nm, .int .i64 kd, .slice a n cap] 116)
 replace HO := Hi (show Own w none0 x1 [blkR bd (.cells #[.int .i64 id, .bool false, .int .i64 cd, .string nm, .int .i64 kd, .slice a n cap] 116)] from hO)
 clear hO
 obtain ⟨z0_0, z0_1, z0_2, z0_3, z0_4, z0_5⟩ := HO.out.c6 0 rfl
 go_enter Tryz.func98, Tryz.ntmps98
 go_wp2_with fail
 refine (o_still HO.out (valid_ok _ (row_stayB HR.out HO.out.below) HN.out HD.out)).mono ?_
 rintro e x2 ⟨rfl, hO, -⟩
 replace HO := Hi hO
 clear hO
 clear hx1 hbd z0_0 z0_1 z0_2 z0_3 z0_4 z0_5
 obtain ⟨z0_0, z0_1, z0_2, z0_3, z0_4, z0_5⟩ := HO.out.c6 0 rfl
 obtain ⟨x3, hx3⟩ : ∃ y, x2.alloc (.cells #[.pointer none, .slice none 0 0, .bool false] 224) = y := ⟨_, rfl⟩
 obtain ⟨bw, hbw⟩ : ∃ y, x2.heap.size = y := ⟨_, rfl⟩
 have hO := newW HO.out
 rw [hx3, hbw] at hO
 replace HO := Hi (show Own _ _ _ [_, resW bw false []] from hO)
 clear hO
 obtain ⟨z0_0t, z0_1t, z0_2t, z0_3t, z0_4t, z0_5t⟩ := HO.out.c6 0 rfl
 go_wp2_with fail
 refine (wnum2 id h1 (by omega) HO.out 1 rfl (by simp)).mono ?_
 rintro e x4 ⟨rfl, hO, -⟩
 replace HO := Hi (show Own _ _ _ [_, resW bw false ([] ++ beN 2 id)] from hO)
 clear hO
 clear z0_0 z0_1 z0_2 z0_3 z0_4 z0_5 hx3 hbw z0_0t z0_1t z0_2t z0_3t z0_4t z0_5t
 obtain ⟨z0_0, z0_1, z0_2, z0_3, z0_4, z0_5⟩ := HO.out.c6 0 rfl
 go_wp2_with fail
 refine (wnum1 0 (by omega) (by omega) HO.out 1 rfl (by simp only [List.length_append, List.length_nil, beN_len]; omega)).mono ?_
 rintro e x5 ⟨rfl, hO, -⟩
 replace HO := Hi (show Own _ _ _ [_, resW bw false ([] ++ beN 2 id ++ beN 1 0)] from hO)
 clear hO
 clear z0_0 z0_1 z0_2 z0_3 z0_4 z0_5
 obtain ⟨z0_0, z0_1, z0_2, z0_3, z0_4, z0_5⟩ := HO.out.c6 0 rfl
 go_wp2_with fail
 refine (wnum1 cd h3 (by omega) HO.out 1 rfl (by simp only [List.length_append, List.length_nil, beN_len]; omega)).mono ?_
 rintro e x6 ⟨rfl, hO, -⟩
 replace HO := Hi (show Own _ _ _ [_, resW bw false ([] ++ beN 2 id ++ beN 1 0 ++ beN 1 cd)] from hO)
 clear hO
 clear z0_0 z0_1 z0_2 z0_3 z0_4 z0_5
 obtain ⟨z0_0, z0_1, z0_2, z0_3, z0_4, z0_5⟩ := HO.out.c6 0 rfl
 go_wp2_with fail
 refine (wnum1 kd hk0 hk1 HO.out 1 rfl (by simp only [List.length_append, List.length_nil, beN_len]; omega)).mono ?_
 rintro e x7 ⟨rfl, hO, -⟩
 replace HO := Hi (show Own _ _ _ [_, resW bw false ([] ++ beN 2 id ++ beN 1 0 ++ beN 1 cd ++ beN 1 kd)] from hO)
 clear hO
 clear z0_0 z0_1 z0_2 z0_3 z0_4 z0_5
 obtain ⟨z0_0, z0_1, z0_2, z0_3, z0_4, z0_5⟩ := HO.out.c6 0 rfl
 go_wp2_with fail
 refine (wname nm HV.out HO.out 1 rfl (by simp only [List.length_append, List.length_nil, beN_len]; omega)).mono ?_
 rintro e x8 ⟨rfl, hO, -⟩
 replace HO := Hi (show Own _ _ _ [_, resW bw false ([] ++ beN 2 id ++ beN 1 0 ++ beN 1 cd ++ beN 1 kd ++ encNm nm)] from hO)
 clear hO
 clear z0_0 z0_1 z0_2 z0_3 z0_4 z0_5
 obtain ⟨z0_0, z0_1, z0_2, z0_3, z0_4, z0_5⟩ := HO.out.c6 0 rfl
 go_wp2_with fail
 refine (wnum1 (n : Int) (by omega) (by omega) HO.out 1 rfl (by simp only [List.length_append, List.length_nil, beN_len]; omega)).mono ?_
 rintro e x9 ⟨rfl, hO, -⟩
 replace HO := Hi (show Own _ _ _ [_, resW bw false ([] ++ beN 2 id ++ beN 1 0 ++ beN 1 cd ++ beN 1 kd ++ encNm nm ++ beN 1 (n : Int))] from hO)
 clear hO
 clear z0_0 z0_1 z0_2 z0_3 z0_4 z0_5
 obtain ⟨z0_0, z0_1, z0_2, z0_3, z0_4, z0_5⟩ := HO.out.c6 0 rfl
 rw [← HHE.out] at HO
 obtain ⟨hd, hhd⟩ : ∃ y, encHd id false cd nm kd n = y := ⟨_, rfl⟩
 rw [hhd] at HO HHL HFV
 have HFN := Hi (show hd ≠ [] by rw [← hhd]; unfold encHd beN; simp)
 clear hhd HHE
 go_wp2
 clear z0_0 z0_1 z0_2 z0_3 z0_4 z0_5
 have HO := Hi (show Own w none0 x9 [blkR bd (.cells #[.int .i64 id, .bool false, .int .i64 cd, .string nm, .int .i64 kd, .slice a n cap] 116), resW bw false (hd ++ (rs.take 0).flatMap encRec)] by have := HO.out; simpa using this)
 go_loopw [34] (fun iv wr => ∃ k : Nat, k ≤ n ∧ iv = .int .i64 k ∧ Own w none0 wr [blkR bd (.cells #[.int .i64 id, .bool false, .int .i64 cd, .string nm, .int .i64 kd, .slice a n cap] 116), resW bw false (hd ++ (rs.take k).flatMap encRec)]) (fun iv _ => n - (intOf iv).toNat)
 case atStart => exact ⟨0, Nat.zero_le _, rfl, HO.out⟩
 case round =>
  obtain ⟨k, hk, rfl, hO⟩ := hrel
  replace HO := Hi hO
  clear hO
  by_cases hlt : k < n
  ·
   have hdl : decide ((k : Int) < (n : Int)) = true := decide_eq_true (by omega)
   obtain ⟨g, rfl⟩ := row_some HR.out (by omega)
   have hkl : k < rs.length := by have := HN.out; omega
   have yc : ∀ q u, q < 5 → (cRc rs[k])[q]? = some u → wr.cell? ⟨g, k * 5 + q, none⟩ = some u := fun q u hq hu => keep HO.out.below ((row_cells HR.out).1 _ _ (by rw [flat_getR cRc 5 (fun _ => rfl) rs k hkl q hq]; exact hu))
   have hok := HRS.out rs[k] (List.getElem_mem hkl)
   have HTK := Hi (show hd ++ (rs.take (k + 1)).flatMap encRec = hd ++ (rs.take k).flatMap encRec ++ encRec rs[k] by rw [List.take_succ_eq_append_getElem hkl, List.flatMap_append, ← List.append_assoc]; simp)
   have hal : (hd ++ (rs.take k).flatMap encRec).length ≤ 1100 := by
    rw [List.length_append]
    have h1 := encRs_len (rs.take k) fun r hr => HRS.out r (List.mem_of_mem_take hr)
    have h2 : (rs.take k).length ≤ 8 := by rw [List.length_take]; omega
    have h3 := Nat.mul_le_mul_right 127 h2
    have := HHL.out
    omega
   generalize hd ++ (rs.take k).flatMap encRec = acc at *
   generalize rs[k] = x at *
   have HOK := Hi hok
   clear hok hkl
   obtain ⟨rn, rk, rt, ra, ro⟩ := x
   have y0 : wr.cell? ⟨g, k * 5, none⟩ = some (.string rn) := yc 0 _ (by decide) rfl
   have y1 : wr.cell? ⟨g, k * 5 + 1, none⟩ = some (.int .i64 rk) := yc 1 _ (by decide) rfl
   have y2 : wr.cell? ⟨g, k * 5 + 2, none⟩ = some (.int .i64 rt) := yc 2 _ (by decide) rfl
   have y3 : wr.cell? ⟨g, k * 5 + 3, none⟩ = some (.int .i64 ra) := yc 3 _ (by decide) rfl
   have y4 : wr.cell? ⟨g, k * 5 + 4, none⟩ = some (.string ro) := yc 4 _ (by decide) rfl
   clear yc
   obtain ⟨x41, hx41, bx, hbx, hO⟩ := HO.out.allocE (.cells #[.string ⟨#[]⟩, .int .i64 0, .int .i64 0, .int .i64 0, .string ⟨#[]⟩] 131)
   replace HO := Hi (show Own w none0 x41 [blkR bd (.cells #[.int .i64 id, .bool false, .int .i64 cd, .string nm, .int .i64 kd, .slice (some ⟨g, 0, none⟩) n cap] 116), resW bw false acc, blkR bx (.cells #[.string ⟨#[]⟩, .int .i64 0, .int .i64 0, .int .i64 0, .string ⟨#[]⟩] 131)] from hO)
   clear hO
   obtain ⟨x47, x52, x56, x59, x61, hx47, hx52, hx56, hx59, hx61, k2_0_42, lk2_0_42, k2_1_48, lk2_1_48, k2_2_53, lk2_2_53, k2_3_57, lk2_3_57, k2_4_60, lk2_4_60, hO⟩ := HO.out.steps5 2 rfl (.string rn) (.int .i64 rk) (.int .i64 rt) (.int .i64 ra) (.string ro)
   replace HO := Hi (show Own _ _ _ [_, _, blkR bx (.cells #[.string rn, .int .i64 rk, .int .i64 rt, .int .i64 ra, .string ro] 131)] from hO)
   clear hO
   obtain ⟨z2_0, z2_1, z2_2, z2_3, z2_4⟩ := HO.out.c5 2 rfl
   go_wp2_with fail
   refine (wrec ⟨rn, rk, rt, ra, ro⟩ HOK.out HO.out 1 rfl (by omega)).mono ?_
   rintro e x62 ⟨rfl, hO, -⟩
   replace HO := Hi (show Own _ _ _ [_, resW bw false (acc ++ encRec ⟨rn, rk, rt, ra, ro⟩), _] from hO)
   clear hO
   clear y0 y1 y2 y3 y4 hx41 hbx k2_0_42 lk2_0_42 hx47 k2_1_48 lk2_1_48 hx52 k2_2_53 lk2_2_53 hx56 k2_3_57 lk2_3_57 hx59 k2_4_60 lk2_4_60 hx61 z2_0 z2_1 z2_2 z2_3 z2_4
   go_wp2
   go_roundw
   case rel => exact ⟨k + 1, by omega, by go_num, by rw [HTK.out]; exact HO.out.take 2⟩
   case measure => simp [intOf]; omega
  ·
   obtain rfl : k = n := by omega
   have hdl : decide ((k : Int) < (k : Int)) = false := decide_eq_false (by omega)
   have hO := HO.out
   rw [show rs.take k = rs by rw [← HN.out, List.take_length], ← HFV.out] at hO
   replace HO := Hi hO
   clear hO
   have cf := resW_flag HO.out 1 rfl
   have hne : encM ⟨id, false, cd, nm, kd, rs⟩ ≠ [] := by rw [HFV.out]; intro h; have := HFN.out; simp at h; exact this h.1
   have hlen : (encM ⟨id, false, cd, nm, kd, rs⟩).length ≤ 1000000 := by
    rw [HFV.out, List.length_append]
    have h1 := encRs_len rs HRS.out
    have h2 := HN.out
    have := HHL.out
    omega
   have HNE := Hi hne
   have HLE := Hi hlen
   clear hne hlen
   go_wp2_with fail
   refine (bStringW HO.out 1 rfl HLE.out HNE.out).mono ?_
   rintro e x99 ⟨rfl, hO, -⟩
   clear cf
   go_wp2
   go_ret2
   exact ⟨rfl, hO.below⟩
theorem encode_ok {id cd : Int} {an : Bool} {kd : Int} {a : Option Addr} {n cap : Nat} (w : World) (hr : w.ownsRow 0 131 5 (.slice a n cap) n (rs.flatMap cRc)) (hn : rs.length = n) (hd : DmV ⟨id, an, cd, nm, kd, rs⟩) :
  Calls Tryz.prog 98 #[.agg #[.int .i64 id, .bool an, .int .i64 cd, .string nm, .int .i64 kd, .slice a n cap]] w fun e w' => e = .returned (.tuple #[.string ⟨(encM ⟨id, an, cd, nm, kd, rs⟩).toArray⟩, .int .i64 0]) ∧ Below w.heap.size w w' := by
 cases an with
 | true => exact encode_true id cd nm kd a n cap rs w hr hn hd
 | false => exact encode_false id cd nm kd a n cap rs w hr hn hd
end Go.Proofs.YtbhglemolpfnkaaGreatDoor
