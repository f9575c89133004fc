/- Package segment: put, the checks, flagByte, write, at a segment without flags and blocks. Printed by wip/tools/gen23A.py. -/
import Derived.Test.YtockaipodnapjaaGreatDoorBld
import Derived.Test.YtockaipodnapjaaGreatDoorTbl
import Derived.Test.YtockaipodnapjaaGreatDoorAddr
namespace Go.Proofs.YtockaipodnapjaaGreatDoor
open Go.RowKit Go.Sort
set_option linter.unusedVariables false
set_option maxRecDepth 100000
attribute [local go_sem] Oper.semAt_some

theorem newBb {w0 w : World} {D : Nat → Prop} {L : List Res} (h : Own w0 D w L) : Own w0 D (w.alloc (.cells #[.pointer none, .slice none 0 0] 122)) (L ++ [resB w.heap.size []]) := by
  have h0 := (Own.nil w none0).alloc (.cells #[.pointer none, .slice none 0 0] 122)
  have h1 := h0.rowNew 5 1
  have h2 : Own w none0 (w.alloc (.cells #[.pointer none, .slice none 0 0] 122)) [resB w.heap.size []] := shutB (L := []) (.inl rfl) h1
  obtain ⟨F, hF, hb, _⟩ := h2.step (i := 0) rfl
  exact h.push hF (fun b h => (hb b h).elim (fun h => h.elim) id) h2.below
/-- The numbers, one behind the other, each in K bytes. -/
def putL (K : Nat) (ns : List Int) : List UInt8 := ns.flatMap (beN K)
theorem putL_len (K : Nat) : ∀ ns : List Int, (putL K ns).length = ns.length * K
  | [] => by simp [putL]
  | n :: ns => by
    have h := putL_len K ns
    unfold putL at h ⊢
    rw [List.flatMap_cons, List.length_append, beN_len, h, List.length_cons, Nat.add_mul]; omega
theorem putL_next (K : Nat) (ns : List Int) (k : Nat) (h : k < ns.length) : putL K (ns.take (k + 1)) = putL K (ns.take k) ++ beN K ns[k] := by
  unfold putL
  rw [List.take_succ_eq_append_getElem h, List.flatMap_append]; simp
theorem bytes_mk (l : List UInt8) : (⟨l.toArray⟩ : ByteArray).data.toList = l := rfl
theorem bytes_sz (l : List UInt8) : (⟨l.toArray⟩ : ByteArray).size = l.length := by show l.toArray.size = _; simp
set_option maxHeartbeats 2000000 in
theorem sput (K : Nat) (hK : 0 < K) (ns : List Int) (N : Nat) (hN : ns.length = N) (hn0 : 0 < N) (hs : N * K ≤ 100000) (hput : ∀ n ∈ ns, ∀ w, Calls Tryz.prog 54 #[.int .i64 n, .int .i64 K] w fun e w' => e = .returned (.tuple #[.string ⟨(beN K n).toArray⟩, .int .i64 0]) ∧ Below w.heap.size w w') (w : World) (g : Nat) (hg : w.heap[g]? = some (.cells (ns.map (Value.int .i64)).toArray 3)) :
    Calls Tryz.prog 36 #[.int .i64 K, .slice (some ⟨g, 0, none⟩) N N] w fun e w' => e = .returned (.string ⟨(putL K ns).toArray⟩) ∧ Below w.heap.size w w' := by
  have HO := Lib.hid (Own.nil w none0)
  have HP := Lib.hid hput
  have HG := Lib.hid hg
  have HN := Lib.hid hN
  have hNm : N ≤ 100000 := Nat.le_trans (Nat.le_mul_of_pos_right _ hK) hs
  clear hput hg hN
  obtain ⟨x1, hx1⟩ : ∃ y, w.alloc (.cells #[.pointer none, .slice none 0 0] 122) = y := ⟨_, rfl⟩
  obtain ⟨bb, hbb⟩ : ∃ y, w.heap.size = y := ⟨_, rfl⟩
  have hO := newBb HO.out
  rw [hx1, hbb] at hO
  replace HO := Lib.hid (show Own w none0 x1 [resB bb (putL K (ns.take 0))] from hO)
  clear hO
  go_enter Tryz.func36, Tryz.ntmps36
  go_wp2
  go_loopw [12] (fun iv wr => ∃ k : Nat, k ≤ N ∧ iv = .int .i64 k ∧ Own w none0 wr [resB bb (putL K (ns.take k))]) (fun iv _ => N - (intOf iv).toNat)
  case atStart => exact ⟨0, Nat.zero_le _, rfl, HO.out⟩
  case round =>
    obtain ⟨k, hk, rfl, hO⟩ := hrel
    replace HO := Lib.hid hO
    clear hO
    by_cases hlt : k < N
    · have hdl : decide ((k : Int) < (N : Int)) = true := decide_eq_true (by omega)
      have hkl : k < ns.length := by rw [HN.out]; exact hlt
      have yc : wr.cell? ⟨g, k, none⟩ = some (.int .i64 ns[k]) := keep HO.out.below (by simp [World.cell?, HG.out, hkl])
      have HP1 := Lib.hid (HP.out ns[k] (List.getElem_mem hkl))
      have hE := putL_next K ns k hkl
      have hln : (putL K (ns.take k)).length ≤ k * K := by rw [putL_len, List.length_take]; exact Nat.mul_le_mul_right _ (by omega)
      have hln2 : k * K + K ≤ N * K := by rw [← Nat.succ_mul]; exact Nat.mul_le_mul_right _ hlt
      have hsz : (⟨(beN K ns[k]).toArray⟩ : ByteArray).size = K := by rw [bytes_sz, beN_len]
      have HW := Lib.hid (fun (w' : World) (h : Own w none0 w' [resB bb (putL K (ns.take k))]) => (by have := writeStrB ⟨(beN K ns[k]).toArray⟩ h 0 rfl (by rw [hsz]; omega); rw [bytes_mk, ← hE] at this; exact this : Calls Tryz.prog 50 #[.pointer (some ⟨bb, 0, none⟩), .string ⟨(beN K ns[k]).toArray⟩] w' (OPost w none0 [resB bb (putL K (ns.take (k + 1)))] (.tuple #[.int .i64 (⟨(beN K ns[k]).toArray⟩ : ByteArray).size, .nilIface]) w')))
      generalize (⟨(beN K ns[k]).toArray⟩ : ByteArray) = s at *
      generalize ns[k] = n at *
      clear hE hln hln2 hkl
      go_wp2_with fail
      refine (o_still HO.out (HP1.out _)).mono ?_
      rintro e x2 ⟨rfl, hO, -⟩
      replace HO := Lib.hid hO
      clear hO yc
      go_wp2_with fail
      refine (HW.out _ HO.out).mono ?_
      rintro e x3 ⟨rfl, hO, -⟩
      replace HO := Lib.hid hO
      clear hO
      go_wp2
      go_roundw
      case rel => exact ⟨k + 1, by omega, by go_num, HO.out⟩
      case measure => simp [intOf]; omega
    · obtain rfl : k = N := by omega
      have hdl : decide ((k : Int) < (k : Int)) = false := decide_eq_false (by omega)
      have hE : ns.take k = ns := List.take_of_length_le (by rw [HN.out]; omega)
      have HO2 := Lib.hid (show Own w none0 wr [resB bb (putL K ns)] by have := HO.out; rwa [hE] at this)
      clear HO hE
      have hle := putL_len K ns
      rw [HN.out] at hle
      go_wp2_with fail
      refine (bStringB HO2.out 0 rfl (by omega) (fun h => by rw [h] at hle; have := Nat.mul_pos hn0 hK; simp at hle; omega)).mono ?_
      rintro e x2 ⟨rfl, hO, -⟩
      have HO := Lib.hid hO
      clear hO hle
      go_wp2
      go_ret
      exact ⟨rfl, HO.out.below⟩
/-- A segment without flags and blocks. -/
def sgC (fp tp q : Int) (d : ByteArray) : Array Value := #[.int .i64 fp, .int .i64 tp, .int .i64 q, .int .i64 0, .bool false, .bool false, .bool false, .bool false, .int .i64 0, .int .i64 0, .bool false, .slice none 0 0, .string d]
theorem seqv_r (n : Int) (w : World) (h0 : 0 ≤ n) (h1 : n ≤ 4294967295) : Calls Tryz.prog 79 #[.int .i64 n] w fun e w' => e = .returned (.bool true) ∧ w = w' := by
  have d1 : decide (n ≥ 0) = true := decide_eq_true h0
  have d2 : decide (n ≤ 4294967295) = true := decide_eq_true h1
  have d3 : decide (0 ≤ n) = true := decide_eq_true h0
  go_enter Tryz.func79, Tryz.ntmps79
  go_wp2
  go_ret
  simp [*]
theorem port_r (n : Int) (w : World) (h0 : 1 ≤ n) (h1 : n ≤ 65535) : Calls Tryz.prog 78 #[.int .i64 n] w fun e w' => e = .returned (.bool true) ∧ w = w' := by
  have d1 : decide (1 ≤ n) = true := decide_eq_true h0
  have d2 : decide (n ≤ 65535) = true := decide_eq_true h1
  go_enter Tryz.func78, Tryz.ntmps78
  go_wp2
  go_ret
  simp [*]
set_option maxHeartbeats 4000000 in
theorem vnum_r (fp tp q : Int) (d : ByteArray) (w : World) (p0 : 1 ≤ fp) (p1 : fp ≤ 65535) (p2 : 1 ≤ tp) (p3 : tp ≤ 65535) (q0 : 0 ≤ q) (q1 : q ≤ 4294967295) : Calls Tryz.prog 47 #[.agg (sgC fp tp q d)] w fun e w' => e = .returned (.bool true) ∧ Below w.heap.size w w' := by
  have HO := Lib.hid (Own.nil w none0)
  unfold sgC
  obtain ⟨x1, hx1⟩ : ∃ y, w.alloc (.cells #[.int .i64 fp, .int .i64 tp, .int .i64 q, .int .i64 0, .bool false, .bool false, .bool false, .bool false, .int .i64 0, .int .i64 0, .bool false, .slice none 0 0, .string d] 53) = y := ⟨_, rfl⟩
  obtain ⟨bs, hbs⟩ : ∃ y, w.heap.size = y := ⟨_, rfl⟩
  have hO := HO.out.alloc (.cells #[.int .i64 fp, .int .i64 tp, .int .i64 q, .int .i64 0, .bool false, .bool false, .bool false, .bool false, .int .i64 0, .int .i64 0, .bool false, .slice none 0 0, .string d] 53)
  rw [hx1, hbs] at hO
  replace HO := Lib.hid (show Own w none0 x1 [blkR bs (.cells #[.int .i64 fp, .int .i64 tp, .int .i64 q, .int .i64 0, .bool false, .bool false, .bool false, .bool false, .int .i64 0, .int .i64 0, .bool false, .slice none 0 0, .string d] 53)] from hO)
  clear hO
  have z0_0 : x1.cell? ⟨bs, 0, none⟩ = some (.int .i64 fp) := HO.out.cell 0 rfl 0 rfl
  have z0_1 : x1.cell? ⟨bs, 1, none⟩ = some (.int .i64 tp) := HO.out.cell 0 rfl 1 rfl
  have z0_2 : x1.cell? ⟨bs, 2, none⟩ = some (.int .i64 q) := HO.out.cell 0 rfl 2 rfl
  have z0_3 : x1.cell? ⟨bs, 3, none⟩ = some (.int .i64 0) := HO.out.cell 0 rfl 3 rfl
  have z0_4 : x1.cell? ⟨bs, 4, none⟩ = some (.bool false) := HO.out.cell 0 rfl 4 rfl
  have z0_5 : x1.cell? ⟨bs, 5, none⟩ = some (.bool false) := HO.out.cell 0 rfl 5 rfl
  have z0_6 : x1.cell? ⟨bs, 6, none⟩ = some (.bool false) := HO.out.cell 0 rfl 6 rfl
  have z0_7 : x1.cell? ⟨bs, 7, none⟩ = some (.bool false) := HO.out.cell 0 rfl 7 rfl
  have z0_8 : x1.cell? ⟨bs, 8, none⟩ = some (.int .i64 0) := HO.out.cell 0 rfl 8 rfl
  have z0_9 : x1.cell? ⟨bs, 9, none⟩ = some (.int .i64 0) := HO.out.cell 0 rfl 9 rfl
  have z0_10 : x1.cell? ⟨bs, 10, none⟩ = some (.bool false) := HO.out.cell 0 rfl 10 rfl
  have z0_11 : x1.cell? ⟨bs, 11, none⟩ = some (.slice none 0 0) := HO.out.cell 0 rfl 11 rfl
  have z0_12 : x1.cell? ⟨bs, 12, none⟩ = some (.string d) := HO.out.cell 0 rfl 12 rfl
  go_enter Tryz.func47, Tryz.ntmps47
  go_wp2_with fail
  refine (port_r fp _ p0 p1).mono ?_
  rintro e xp ⟨rfl, rfl⟩
  go_wp2_with fail
  refine (port_r tp _ p2 p3).mono ?_
  rintro e xp ⟨rfl, rfl⟩
  go_wp2_with fail
  refine (seqv_r q _ q0 q1).mono ?_
  rintro e xp ⟨rfl, rfl⟩
  go_wp2_with fail
  refine (seqv_r 0 _ (by decide) (by decide)).mono ?_
  rintro e xp ⟨rfl, rfl⟩
  go_wp2
  go_ret
  exact ⟨rfl, HO.out.below⟩
set_option maxHeartbeats 4000000 in
theorem vflg_r (fp tp q : Int) (d : ByteArray) (w : World) : Calls Tryz.prog 48 #[.agg (sgC fp tp q d)] w fun e w' => e = .returned (.bool true) ∧ Below w.heap.size w w' := by
  have HO := Lib.hid (Own.nil w none0)
  unfold sgC
  obtain ⟨x1, hx1⟩ : ∃ y, w.alloc (.cells #[.int .i64 fp, .int .i64 tp, .int .i64 q, .int .i64 0, .bool false, .bool false, .bool false, .bool false, .int .i64 0, .int .i64 0, .bool false, .slice none 0 0, .string d] 53) = y := ⟨_, rfl⟩
  obtain ⟨bs, hbs⟩ : ∃ y, w.heap.size = y := ⟨_, rfl⟩
  have hO := HO.out.alloc (.cells #[.int .i64 fp, .int .i64 tp, .int .i64 q, .int .i64 0, .bool false, .bool false, .bool false, .bool false, .int .i64 0, .int .i64 0, .bool false, .slice none 0 0, .string d] 53)
  rw [hx1, hbs] at hO
  replace HO := Lib.hid (show Own w none0 x1 [blkR bs (.cells #[.int .i64 fp, .int .i64 tp, .int .i64 q, .int .i64 0, .bool false, .bool false, .bool false, .bool false, .int .i64 0, .int .i64 0, .bool false, .slice none 0 0, .string d] 53)] from hO)
  clear hO
  have z0_0 : x1.cell? ⟨bs, 0, none⟩ = some (.int .i64 fp) := HO.out.cell 0 rfl 0 rfl
  have z0_1 : x1.cell? ⟨bs, 1, none⟩ = some (.int .i64 tp) := HO.out.cell 0 rfl 1 rfl
  have z0_2 : x1.cell? ⟨bs, 2, none⟩ = some (.int .i64 q) := HO.out.cell 0 rfl 2 rfl
  have z0_3 : x1.cell? ⟨bs, 3, none⟩ = some (.int .i64 0) := HO.out.cell 0 rfl 3 rfl
  have z0_4 : x1.cell? ⟨bs, 4, none⟩ = some (.bool false) := HO.out.cell 0 rfl 4 rfl
  have z0_5 : x1.cell? ⟨bs, 5, none⟩ = some (.bool false) := HO.out.cell 0 rfl 5 rfl
  have z0_6 : x1.cell? ⟨bs, 6, none⟩ = some (.bool false) := HO.out.cell 0 rfl 6 rfl
  have z0_7 : x1.cell? ⟨bs, 7, none⟩ = some (.bool false) := HO.out.cell 0 rfl 7 rfl
  have z0_8 : x1.cell? ⟨bs, 8, none⟩ = some (.int .i64 0) := HO.out.cell 0 rfl 8 rfl
  have z0_9 : x1.cell? ⟨bs, 9, none⟩ = some (.int .i64 0) := HO.out.cell 0 rfl 9 rfl
  have z0_10 : x1.cell? ⟨bs, 10, none⟩ = some (.bool false) := HO.out.cell 0 rfl 10 rfl
  have z0_11 : x1.cell? ⟨bs, 11, none⟩ = some (.slice none 0 0) := HO.out.cell 0 rfl 11 rfl
  have z0_12 : x1.cell? ⟨bs, 12, none⟩ = some (.string d) := HO.out.cell 0 rfl 12 rfl
  go_enter Tryz.func48, Tryz.ntmps48
  go_wp2
  go_ret
  exact ⟨rfl, HO.out.below⟩
set_option maxHeartbeats 4000000 in
theorem vblk_r (fp tp q : Int) (d : ByteArray) (w : World) : Calls Tryz.prog 49 #[.agg (sgC fp tp q d)] w fun e w' => e = .returned (.bool true) ∧ Below w.heap.size w w' := by
  have HO := Lib.hid (Own.nil w none0)
  unfold sgC
  obtain ⟨x1, hx1⟩ : ∃ y, w.alloc (.cells #[.int .i64 fp, .int .i64 tp, .int .i64 q, .int .i64 0, .bool false, .bool false, .bool false, .bool false, .int .i64 0, .int .i64 0, .bool false, .slice none 0 0, .string d] 53) = y := ⟨_, rfl⟩
  obtain ⟨bs, hbs⟩ : ∃ y, w.heap.size = y := ⟨_, rfl⟩
  have hO := HO.out.alloc (.cells #[.int .i64 fp, .int .i64 tp, .int .i64 q, .int .i64 0, .bool false, .bool false, .bool false, .bool false, .int .i64 0, .int .i64 0, .bool false, .slice none 0 0, .string d] 53)
  rw [hx1, hbs] at hO
  replace HO := Lib.hid (show Own w none0 x1 [blkR bs (.cells #[.int .i64 fp, .int .i64 tp, .int .i64 q, .int .i64 0, .bool false, .bool false, .bool false, .bool false, .int .i64 0, .int .i64 0, .bool false, .slice none 0 0, .string d] 53)] from hO)
  clear hO
  have z0_0 : x1.cell? ⟨bs, 0, none⟩ = some (.int .i64 fp) := HO.out.cell 0 rfl 0 rfl
  have z0_1 : x1.cell? ⟨bs, 1, none⟩ = some (.int .i64 tp) := HO.out.cell 0 rfl 1 rfl
  have z0_2 : x1.cell? ⟨bs, 2, none⟩ = some (.int .i64 q) := HO.out.cell 0 rfl 2 rfl
  have z0_3 : x1.cell? ⟨bs, 3, none⟩ = some (.int .i64 0) := HO.out.cell 0 rfl 3 rfl
  have z0_4 : x1.cell? ⟨bs, 4, none⟩ = some (.bool false) := HO.out.cell 0 rfl 4 rfl
  have z0_5 : x1.cell? ⟨bs, 5, none⟩ = some (.bool false) := HO.out.cell 0 rfl 5 rfl
  have z0_6 : x1.cell? ⟨bs, 6, none⟩ = some (.bool false) := HO.out.cell 0 rfl 6 rfl
  have z0_7 : x1.cell? ⟨bs, 7, none⟩ = some (.bool false) := HO.out.cell 0 rfl 7 rfl
  have z0_8 : x1.cell? ⟨bs, 8, none⟩ = some (.int .i64 0) := HO.out.cell 0 rfl 8 rfl
  have z0_9 : x1.cell? ⟨bs, 9, none⟩ = some (.int .i64 0) := HO.out.cell 0 rfl 9 rfl
  have z0_10 : x1.cell? ⟨bs, 10, none⟩ = some (.bool false) := HO.out.cell 0 rfl 10 rfl
  have z0_11 : x1.cell? ⟨bs, 11, none⟩ = some (.slice none 0 0) := HO.out.cell 0 rfl 11 rfl
  have z0_12 : x1.cell? ⟨bs, 12, none⟩ = some (.string d) := HO.out.cell 0 rfl 12 rfl
  go_enter Tryz.func49, Tryz.ntmps49
  go_wp2
  go_loopw [23] (fun iv wr => iv = .int .i64 0 ∧ Own w none0 wr [blkR bs (.cells #[.int .i64 fp, .int .i64 tp, .int .i64 q, .int .i64 0, .bool false, .bool false, .bool false, .bool false, .int .i64 0, .int .i64 0, .bool false, .slice none 0 0, .string d] 53)]) (fun iv _ => 0)
  case atStart => exact ⟨rfl, HO.out⟩
  case round =>
    obtain ⟨rfl, hO⟩ := hrel
    replace HO := Lib.hid hO
    clear hO
    go_wp2
    go_ret
    exact ⟨rfl, HO.out.below⟩
set_option maxHeartbeats 4000000 in
theorem svalid_r (fp tp q : Int) (d : ByteArray) (w : World) (p0 : 1 ≤ fp) (p1 : fp ≤ 65535) (p2 : 1 ≤ tp) (p3 : tp ≤ 65535) (q0 : 0 ≤ q) (q1 : q ≤ 4294967295) (hd : d.size ≤ 1024) : Calls Tryz.prog 33 #[.agg (sgC fp tp q d)] w fun e w' => e = .returned (.bool true) ∧ Below w.heap.size w w' := by
  have HO := Lib.hid (Own.nil w none0)
  unfold sgC
  have dl : decide ((d.size : Int) ≤ 1024) = true := decide_eq_true (by omega)
  obtain ⟨x1, hx1⟩ : ∃ y, w.alloc (.cells #[.int .i64 fp, .int .i64 tp, .int .i64 q, .int .i64 0, .bool false, .bool false, .bool false, .bool false, .int .i64 0, .int .i64 0, .bool false, .slice none 0 0, .string d] 53) = y := ⟨_, rfl⟩
  obtain ⟨bs, hbs⟩ : ∃ y, w.heap.size = y := ⟨_, rfl⟩
  have hO := HO.out.alloc (.cells #[.int .i64 fp, .int .i64 tp, .int .i64 q, .int .i64 0, .bool false, .bool false, .bool false, .bool false, .int .i64 0, .int .i64 0, .bool false, .slice none 0 0, .string d] 53)
  rw [hx1, hbs] at hO
  replace HO := Lib.hid (show Own w none0 x1 [blkR bs (.cells #[.int .i64 fp, .int .i64 tp, .int .i64 q, .int .i64 0, .bool false, .bool false, .bool false, .bool false, .int .i64 0, .int .i64 0, .bool false, .slice none 0 0, .string d] 53)] from hO)
  clear hO
  have z0_0 : x1.cell? ⟨bs, 0, none⟩ = some (.int .i64 fp) := HO.out.cell 0 rfl 0 rfl
  have z0_1 : x1.cell? ⟨bs, 1, none⟩ = some (.int .i64 tp) := HO.out.cell 0 rfl 1 rfl
  have z0_2 : x1.cell? ⟨bs, 2, none⟩ = some (.int .i64 q) := HO.out.cell 0 rfl 2 rfl
  have z0_3 : x1.cell? ⟨bs, 3, none⟩ = some (.int .i64 0) := HO.out.cell 0 rfl 3 rfl
  have z0_4 : x1.cell? ⟨bs, 4, none⟩ = some (.bool false) := HO.out.cell 0 rfl 4 rfl
  have z0_5 : x1.cell? ⟨bs, 5, none⟩ = some (.bool false) := HO.out.cell 0 rfl 5 rfl
  have z0_6 : x1.cell? ⟨bs, 6, none⟩ = some (.bool false) := HO.out.cell 0 rfl 6 rfl
  have z0_7 : x1.cell? ⟨bs, 7, none⟩ = some (.bool false) := HO.out.cell 0 rfl 7 rfl
  have z0_8 : x1.cell? ⟨bs, 8, none⟩ = some (.int .i64 0) := HO.out.cell 0 rfl 8 rfl
  have z0_9 : x1.cell? ⟨bs, 9, none⟩ = some (.int .i64 0) := HO.out.cell 0 rfl 9 rfl
  have z0_10 : x1.cell? ⟨bs, 10, none⟩ = some (.bool false) := HO.out.cell 0 rfl 10 rfl
  have z0_11 : x1.cell? ⟨bs, 11, none⟩ = some (.slice none 0 0) := HO.out.cell 0 rfl 11 rfl
  have z0_12 : x1.cell? ⟨bs, 12, none⟩ = some (.string d) := HO.out.cell 0 rfl 12 rfl
  go_enter Tryz.func33, Tryz.ntmps33
  go_wp2_with fail
  refine (o_still HO.out (vnum_r fp tp q d _ p0 p1 p2 p3 q0 q1)).mono ?_
  rintro e x2 ⟨rfl, hO, -⟩
  replace HO := Lib.hid (show Own w none0 x2 [blkR bs (.cells #[.int .i64 fp, .int .i64 tp, .int .i64 q, .int .i64 0, .bool false, .bool false, .bool false, .bool false, .int .i64 0, .int .i64 0, .bool false, .slice none 0 0, .string d] 53)] from hO)
  clear hO
  clear hx1 hbs z0_0 z0_1 z0_2 z0_3 z0_4 z0_5 z0_6 z0_7 z0_8 z0_9 z0_10 z0_11 z0_12
  have z0_0 : x2.cell? ⟨bs, 0, none⟩ = some (.int .i64 fp) := HO.out.cell 0 rfl 0 rfl
  have z0_1 : x2.cell? ⟨bs, 1, none⟩ = some (.int .i64 tp) := HO.out.cell 0 rfl 1 rfl
  have z0_2 : x2.cell? ⟨bs, 2, none⟩ = some (.int .i64 q) := HO.out.cell 0 rfl 2 rfl
  have z0_3 : x2.cell? ⟨bs, 3, none⟩ = some (.int .i64 0) := HO.out.cell 0 rfl 3 rfl
  have z0_4 : x2.cell? ⟨bs, 4, none⟩ = some (.bool false) := HO.out.cell 0 rfl 4 rfl
  have z0_5 : x2.cell? ⟨bs, 5, none⟩ = some (.bool false) := HO.out.cell 0 rfl 5 rfl
  have z0_6 : x2.cell? ⟨bs, 6, none⟩ = some (.bool false) := HO.out.cell 0 rfl 6 rfl
  have z0_7 : x2.cell? ⟨bs, 7, none⟩ = some (.bool false) := HO.out.cell 0 rfl 7 rfl
  have z0_8 : x2.cell? ⟨bs, 8, none⟩ = some (.int .i64 0) := HO.out.cell 0 rfl 8 rfl
  have z0_9 : x2.cell? ⟨bs, 9, none⟩ = some (.int .i64 0) := HO.out.cell 0 rfl 9 rfl
  have z0_10 : x2.cell? ⟨bs, 10, none⟩ = some (.bool false) := HO.out.cell 0 rfl 10 rfl
  have z0_11 : x2.cell? ⟨bs, 11, none⟩ = some (.slice none 0 0) := HO.out.cell 0 rfl 11 rfl
  have z0_12 : x2.cell? ⟨bs, 12, none⟩ = some (.string d) := HO.out.cell 0 rfl 12 rfl
  go_wp2_with fail
  refine (o_still HO.out (vflg_r fp tp q d _)).mono ?_
  rintro e x3 ⟨rfl, hO, -⟩
  replace HO := Lib.hid (show Own w none0 x3 [blkR bs (.cells #[.int .i64 fp, .int .i64 tp, .int .i64 q, .int .i64 0, .bool false, .bool false, .bool false, .bool false, .int .i64 0, .int .i64 0, .bool false, .slice none 0 0, .string d] 53)] from hO)
  clear hO
  clear z0_0 z0_1 z0_2 z0_3 z0_4 z0_5 z0_6 z0_7 z0_8 z0_9 z0_10 z0_11 z0_12
  have z0_0 : x3.cell? ⟨bs, 0, none⟩ = some (.int .i64 fp) := HO.out.cell 0 rfl 0 rfl
  have z0_1 : x3.cell? ⟨bs, 1, none⟩ = some (.int .i64 tp) := HO.out.cell 0 rfl 1 rfl
  have z0_2 : x3.cell? ⟨bs, 2, none⟩ = some (.int .i64 q) := HO.out.cell 0 rfl 2 rfl
  have z0_3 : x3.cell? ⟨bs, 3, none⟩ = some (.int .i64 0) := HO.out.cell 0 rfl 3 rfl
  have z0_4 : x3.cell? ⟨bs, 4, none⟩ = some (.bool false) := HO.out.cell 0 rfl 4 rfl
  have z0_5 : x3.cell? ⟨bs, 5, none⟩ = some (.bool false) := HO.out.cell 0 rfl 5 rfl
  have z0_6 : x3.cell? ⟨bs, 6, none⟩ = some (.bool false) := HO.out.cell 0 rfl 6 rfl
  have z0_7 : x3.cell? ⟨bs, 7, none⟩ = some (.bool false) := HO.out.cell 0 rfl 7 rfl
  have z0_8 : x3.cell? ⟨bs, 8, none⟩ = some (.int .i64 0) := HO.out.cell 0 rfl 8 rfl
  have z0_9 : x3.cell? ⟨bs, 9, none⟩ = some (.int .i64 0) := HO.out.cell 0 rfl 9 rfl
  have z0_10 : x3.cell? ⟨bs, 10, none⟩ = some (.bool false) := HO.out.cell 0 rfl 10 rfl
  have z0_11 : x3.cell? ⟨bs, 11, none⟩ = some (.slice none 0 0) := HO.out.cell 0 rfl 11 rfl
  have z0_12 : x3.cell? ⟨bs, 12, none⟩ = some (.string d) := HO.out.cell 0 rfl 12 rfl
  go_wp2_with fail
  refine (o_still HO.out (vblk_r fp tp q d _)).mono ?_
  rintro e x4 ⟨rfl, hO, -⟩
  replace HO := Lib.hid (show Own w none0 x4 [blkR bs (.cells #[.int .i64 fp, .int .i64 tp, .int .i64 q, .int .i64 0, .bool false, .bool false, .bool false, .bool false, .int .i64 0, .int .i64 0, .bool false, .slice none 0 0, .string d] 53)] from hO)
  clear hO
  clear z0_0 z0_1 z0_2 z0_3 z0_4 z0_5 z0_6 z0_7 z0_8 z0_9 z0_10 z0_11 z0_12
  have z0_0 : x4.cell? ⟨bs, 0, none⟩ = some (.int .i64 fp) := HO.out.cell 0 rfl 0 rfl
  have z0_1 : x4.cell? ⟨bs, 1, none⟩ = some (.int .i64 tp) := HO.out.cell 0 rfl 1 rfl
  have z0_2 : x4.cell? ⟨bs, 2, none⟩ = some (.int .i64 q) := HO.out.cell 0 rfl 2 rfl
  have z0_3 : x4.cell? ⟨bs, 3, none⟩ = some (.int .i64 0) := HO.out.cell 0 rfl 3 rfl
  have z0_4 : x4.cell? ⟨bs, 4, none⟩ = some (.bool false) := HO.out.cell 0 rfl 4 rfl
  have z0_5 : x4.cell? ⟨bs, 5, none⟩ = some (.bool false) := HO.out.cell 0 rfl 5 rfl
  have z0_6 : x4.cell? ⟨bs, 6, none⟩ = some (.bool false) := HO.out.cell 0 rfl 6 rfl
  have z0_7 : x4.cell? ⟨bs, 7, none⟩ = some (.bool false) := HO.out.cell 0 rfl 7 rfl
  have z0_8 : x4.cell? ⟨bs, 8, none⟩ = some (.int .i64 0) := HO.out.cell 0 rfl 8 rfl
  have z0_9 : x4.cell? ⟨bs, 9, none⟩ = some (.int .i64 0) := HO.out.cell 0 rfl 9 rfl
  have z0_10 : x4.cell? ⟨bs, 10, none⟩ = some (.bool false) := HO.out.cell 0 rfl 10 rfl
  have z0_11 : x4.cell? ⟨bs, 11, none⟩ = some (.slice none 0 0) := HO.out.cell 0 rfl 11 rfl
  have z0_12 : x4.cell? ⟨bs, 12, none⟩ = some (.string d) := HO.out.cell 0 rfl 12 rfl
  go_wp2
  go_ret
  exact ⟨rfl, HO.out.below⟩
end Go.Proofs.YtockaipodnapjaaGreatDoor
