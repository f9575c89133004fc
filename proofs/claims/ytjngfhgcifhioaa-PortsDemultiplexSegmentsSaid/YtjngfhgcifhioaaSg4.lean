/- segment.read, Decode, of the encoding of a segment without flags and blocks. Printed by wip/tools/gen23E.py. -/
import Derived.Test.YtjngfhgcifhioaaSg3
import Derived.Laws.ResultCell
import Derived.Laws.EntriesVeiled
namespace Go.Proofs.Ytjngfhgcifhioaa
open Go.RowKit Go.Sort
set_option linter.unusedVariables false
set_option maxRecDepth 100000
attribute [local go_sem] Oper.semAt_some

theorem results_row_tmp {fn : Func} {p q : Tmp} {ty : TypeId} (h : fn.results = #[.cell p ty, .tmp q]) (tmps : Array Value) (P : Program) (w : World) (g : Nat) (t : TypeId) (cs : Array Value) (fr : Nat × Nat) (d : TypeDesc)
    (hp : tmps.getD p undef = .pointer (some ⟨g, 0, none⟩)) (hg : w.heap[g]? = some (.cells cs t fr))
    (hu : P.underlying ty = some d) (hd : (match d with | .struct _ | .array _ _ => true | _ => false) = true) (hi : (P.info? ty).map (·.size) = some cs.size) :
    (results fn tmps).run P w = .ok (.tuple #[.agg cs, tmps.getD q undef]) w := by
  have hp' : tmps[p]?.getD undef = .pointer (some ⟨g, 0, none⟩) := by simpa using hp
  simp only [results, h]
  simp [Result.andThen, hp', asAddr, run_loadVar_row w g t ty cs fr d hg hu (by revert hd; cases d <;> exact id) hi]
theorem infoSg : (Try.prog.info? 51).map (·.size) = some 13 := by kernel_rfl
theorem beD_k1 (n : Int) (h0 : 0 ≤ n) (h1 : n < 256) : beD (beN 1 n) = n := by
  simp only [beN, beD, List.foldl_cons, List.foldl_nil, by8_val]; simp; omega
theorem beD_k2 (n : Int) (h0 : 0 ≤ n) (h1 : n < 65536) : beD (beN 2 n) = n := by
  simp only [beN, beD, List.foldl_cons, List.foldl_nil, by8_val]; simp; omega
theorem beD_k4 (n : Int) (h0 : 0 ≤ n) (h1 : n < 4294967296) : beD (beN 4 n) = n := by
  simp only [beN, beD, List.foldl_cons, List.foldl_nil, by8_val]; simp; omega
/-- The bytes l stand at place p. -/
def AtS (s : ByteArray) (p : Nat) (l : List UInt8) : Prop := ∃ r, s.data.toList.drop p = l ++ r
theorem AtS.step {s : ByteArray} {p k : Nat} {a b : List UInt8} (h : AtS s p (a ++ b)) (hk : a.length = k) : AtS s p a ∧ AtS s (p + k) b := by
  obtain ⟨r, h⟩ := h
  refine ⟨⟨b ++ r, by rw [h, List.append_assoc]⟩, ⟨r, ?_⟩⟩
  rw [← List.drop_drop, h, List.append_assoc, ← hk, List.drop_left]
theorem AtS.takeN {s : ByteArray} {p k : Nat} {n : Int} (h : AtS s p (beN k n)) : (s.data.toList.drop p).take k = beN k n := by
  obtain ⟨r, h⟩ := h
  have := List.take_left (l₁ := beN k n) (l₂ := r)
  rw [beN_len] at this
  rw [h, this]
set_option maxHeartbeats 4000000 in
theorem rget1 {w0 w : World} {D : Nat → Prop} {L : List Res} {bt ba : Nat} {s : ByteArray} (p : Nat) (n : Int) (n0 : 0 ≤ n) (n1 : n < 256) (ha : AtS s p (beN 1 n)) (hp : p + 1 ≤ s.size) (hs : s.size ≤ 1000000) (hc : w.cell? ⟨bt, 0, none⟩ = some (.string s)) (h : Own w0 D w L) (i : Nat) (hi : L[i]? = some (blkR ba (.cells #[.int .i64 (p : Int)] 3))) :
    Calls Try.prog 53 #[.int .i64 1, .pointer (some ⟨bt, 0, none⟩), .pointer (some ⟨ba, 0, none⟩)] w (OPost w0 D (L.set i (blkR ba (.cells #[.int .i64 ((p + 1 : Nat) : Int)] 3))) (.int .i64 n) w) := by
  refine o_one h hi fun D HO0 => ?_
  clear h hi
  have HO := Lib.hid HO0
  have hg := fun w => get_1 s p w hp (by unfold maxLen; omega)
  rw [ha.takeN, beD_k1 n n0 n1] at hg
  have HG := Lib.hid hg
  have hadd : ((p + 1 : Nat) : Int) = (p : Int) + 1 := by omega
  have hpb : (p : Int) ≤ 1000000 := by omega
  have hp0 : (0 : Int) ≤ p := by omega
  rw [hadd]
  clear hg HO0 ha n0 n1 hadd hp hs
  have z0_0 : w.cell? ⟨ba, 0, none⟩ = some (.int .i64 (p : Int)) := HO.out.cell 0 rfl 0 rfl
  go_enter Try.func53, Try.ntmps53
  go_wp2_with fail
  refine (o_still HO.out (HG.out _)).mono ?_
  rintro e x1 ⟨rfl, hO, -⟩
  replace HO := Lib.hid (show Own w D x1 [blkR ba (.cells #[.int .i64 (p : Int)] 3)] from hO)
  clear hO
  clear z0_0
  clear hc
  have z0_0 : x1.cell? ⟨ba, 0, none⟩ = some (.int .i64 (p : Int)) := HO.out.cell 0 rfl 0 rfl
  have y0_0 : x1.frozen? ⟨ba, 0, none⟩ = false := HO.out.frz 0 rfl 0
  obtain ⟨x2, hx2⟩ : ∃ y, x1.setCell ⟨ba, 0, none⟩ (.int .i64 ((p : Int) + 1)) = y := ⟨_, rfl⟩
  have hO := HO.out.setCell 0 rfl 0 (.int .i64 ((p : Int) + 1))
  rw [hx2] at hO
  replace HO := Lib.hid (show Own w D x2 [blkR ba (.cells #[.int .i64 ((p : Int) + 1)] 3)] from hO)
  clear hO
  go_wp2
  go_ret
  exact ⟨rfl, HO.out, HO.out.size⟩
set_option maxHeartbeats 4000000 in
theorem rget2 {w0 w : World} {D : Nat → Prop} {L : List Res} {bt ba : Nat} {s : ByteArray} (p : Nat) (n : Int) (n0 : 0 ≤ n) (n1 : n < 65536) (ha : AtS s p (beN 2 n)) (hp : p + 2 ≤ s.size) (hs : s.size ≤ 1000000) (hc : w.cell? ⟨bt, 0, none⟩ = some (.string s)) (h : Own w0 D w L) (i : Nat) (hi : L[i]? = some (blkR ba (.cells #[.int .i64 (p : Int)] 3))) :
    Calls Try.prog 53 #[.int .i64 2, .pointer (some ⟨bt, 0, none⟩), .pointer (some ⟨ba, 0, none⟩)] w (OPost w0 D (L.set i (blkR ba (.cells #[.int .i64 ((p + 2 : Nat) : Int)] 3))) (.int .i64 n) w) := by
  refine o_one h hi fun D HO0 => ?_
  clear h hi
  have HO := Lib.hid HO0
  have hg := fun w => get_2 s p w hp (by unfold maxLen; omega)
  rw [ha.takeN, beD_k2 n n0 n1] at hg
  have HG := Lib.hid hg
  have hadd : ((p + 2 : Nat) : Int) = (p : Int) + 2 := by omega
  have hpb : (p : Int) ≤ 1000000 := by omega
  have hp0 : (0 : Int) ≤ p := by omega
  rw [hadd]
  clear hg HO0 ha n0 n1 hadd hp hs
  have z0_0 : w.cell? ⟨ba, 0, none⟩ = some (.int .i64 (p : Int)) := HO.out.cell 0 rfl 0 rfl
  go_enter Try.func53, Try.ntmps53
  go_wp2_with fail
  refine (o_still HO.out (HG.out _)).mono ?_
  rintro e x1 ⟨rfl, hO, -⟩
  replace HO := Lib.hid (show Own w D x1 [blkR ba (.cells #[.int .i64 (p : Int)] 3)] from hO)
  clear hO
  clear z0_0
  clear hc
  have z0_0 : x1.cell? ⟨ba, 0, none⟩ = some (.int .i64 (p : Int)) := HO.out.cell 0 rfl 0 rfl
  have y0_0 : x1.frozen? ⟨ba, 0, none⟩ = false := HO.out.frz 0 rfl 0
  obtain ⟨x2, hx2⟩ : ∃ y, x1.setCell ⟨ba, 0, none⟩ (.int .i64 ((p : Int) + 2)) = y := ⟨_, rfl⟩
  have hO := HO.out.setCell 0 rfl 0 (.int .i64 ((p : Int) + 2))
  rw [hx2] at hO
  replace HO := Lib.hid (show Own w D x2 [blkR ba (.cells #[.int .i64 ((p : Int) + 2)] 3)] from hO)
  clear hO
  go_wp2
  go_ret
  exact ⟨rfl, HO.out, HO.out.size⟩
set_option maxHeartbeats 4000000 in
theorem rget4 {w0 w : World} {D : Nat → Prop} {L : List Res} {bt ba : Nat} {s : ByteArray} (p : Nat) (n : Int) (n0 : 0 ≤ n) (n1 : n < 4294967296) (ha : AtS s p (beN 4 n)) (hp : p + 4 ≤ s.size) (hs : s.size ≤ 1000000) (hc : w.cell? ⟨bt, 0, none⟩ = some (.string s)) (h : Own w0 D w L) (i : Nat) (hi : L[i]? = some (blkR ba (.cells #[.int .i64 (p : Int)] 3))) :
    Calls Try.prog 53 #[.int .i64 4, .pointer (some ⟨bt, 0, none⟩), .pointer (some ⟨ba, 0, none⟩)] w (OPost w0 D (L.set i (blkR ba (.cells #[.int .i64 ((p + 4 : Nat) : Int)] 3))) (.int .i64 n) w) := by
  refine o_one h hi fun D HO0 => ?_
  clear h hi
  have HO := Lib.hid HO0
  have hg := fun w => get_4 s p w hp (by unfold maxLen; omega)
  rw [ha.takeN, beD_k4 n n0 n1] at hg
  have HG := Lib.hid hg
  have hadd : ((p + 4 : Nat) : Int) = (p : Int) + 4 := by omega
  have hpb : (p : Int) ≤ 1000000 := by omega
  have hp0 : (0 : Int) ≤ p := by omega
  rw [hadd]
  clear hg HO0 ha n0 n1 hadd hp hs
  have z0_0 : w.cell? ⟨ba, 0, none⟩ = some (.int .i64 (p : Int)) := HO.out.cell 0 rfl 0 rfl
  go_enter Try.func53, Try.ntmps53
  go_wp2_with fail
  refine (o_still HO.out (HG.out _)).mono ?_
  rintro e x1 ⟨rfl, hO, -⟩
  replace HO := Lib.hid (show Own w D x1 [blkR ba (.cells #[.int .i64 (p : Int)] 3)] from hO)
  clear hO
  clear z0_0
  clear hc
  have z0_0 : x1.cell? ⟨ba, 0, none⟩ = some (.int .i64 (p : Int)) := HO.out.cell 0 rfl 0 rfl
  have y0_0 : x1.frozen? ⟨ba, 0, none⟩ = false := HO.out.frz 0 rfl 0
  obtain ⟨x2, hx2⟩ : ∃ y, x1.setCell ⟨ba, 0, none⟩ (.int .i64 ((p : Int) + 4)) = y := ⟨_, rfl⟩
  have hO := HO.out.setCell 0 rfl 0 (.int .i64 ((p : Int) + 4))
  rw [hx2] at hO
  replace HO := Lib.hid (show Own w D x2 [blkR ba (.cells #[.int .i64 ((p : Int) + 4)] 3)] from hO)
  clear hO
  go_wp2
  go_ret
  exact ⟨rfl, HO.out, HO.out.size⟩
theorem segB_all {fp tp q sum : Int} {d s : ByteArray} (h : s = ⟨(segB fp tp q sum d).toArray⟩) : AtS s 0 (beN 2 fp) ∧ AtS s 2 (beN 2 tp) ∧ AtS s 4 (beN 4 q) ∧ AtS s 8 (beN 4 0) ∧ AtS s 12 (beN 1 0) ∧ AtS s 13 (beN 1 0) ∧ AtS s 14 (beN 2 0) ∧ AtS s 16 (beN 2 0) ∧ AtS s 18 (beN 2 sum) ∧ s.extract 20 s.size = d := by
  have hl : s.data.toList = beN 2 fp ++ (beN 2 tp ++ (beN 4 q ++ (beN 4 0 ++ (beN 1 0 ++ (beN 1 0 ++ (beN 2 0 ++ (beN 2 0 ++ (beN 2 sum ++ d.data.toList)))))))) := by
    rw [h, bytes_mk]
    unfold segB putL
    simp only [List.flatMap_cons, List.flatMap_nil, List.append_nil, List.append_assoc]
  have h0 : AtS s 0 (beN 2 fp ++ (beN 2 tp ++ (beN 4 q ++ (beN 4 0 ++ (beN 1 0 ++ (beN 1 0 ++ (beN 2 0 ++ (beN 2 0 ++ (beN 2 sum ++ d.data.toList))))))))) := ⟨[], by rw [List.drop_zero, List.append_nil]; exact hl⟩
  obtain ⟨a1, h0⟩ := h0.step (beN_len _ _)
  obtain ⟨a2, h0⟩ := h0.step (beN_len _ _)
  obtain ⟨a3, h0⟩ := h0.step (beN_len _ _)
  obtain ⟨a4, h0⟩ := h0.step (beN_len _ _)
  obtain ⟨a5, h0⟩ := h0.step (beN_len _ _)
  obtain ⟨a6, h0⟩ := h0.step (beN_len _ _)
  obtain ⟨a7, h0⟩ := h0.step (beN_len _ _)
  obtain ⟨a8, h0⟩ := h0.step (beN_len _ _)
  obtain ⟨a9, h0⟩ := h0.step (beN_len _ _)
  refine ⟨a1, a2, a3, a4, a5, a6, a7, a8, a9, ?_⟩
  obtain ⟨r, hr⟩ := h0
  have hlen := congrArg List.length hl
  simp only [List.length_append, beN_len] at hlen
  have hr2 := congrArg List.length hr
  simp only [List.length_append, List.length_drop] at hr2
  have hr0 : r = [] := List.eq_nil_of_length_eq_zero (by omega)
  rw [hr0, List.append_nil] at hr
  have hsz : s.size = 20 + d.data.toList.length := by rw [Lib.size_eq]; omega
  rw [hsz, ext_list]
  have hr' : s.data.toList.drop 20 = d.data.toList := hr
  rw [hr', List.take_length]
set_option maxRecDepth 100000 in
set_option maxHeartbeats 4000000 in
theorem sread_r (fp tp q sum : Int) (d s : ByteArray) (w : World) (p0 : 1 ≤ fp) (p1 : fp ≤ 65535) (p2 : 1 ≤ tp) (p3 : tp ≤ 65535) (q0 : 0 ≤ q) (q1 : q ≤ 4294967295) (s0 : 0 ≤ sum) (s1 : sum ≤ 65535) (hd : d.size ≤ 1024) (hs : s = ⟨(segB fp tp q sum d).toArray⟩) :
    Calls Try.prog 33 #[.string s] w fun e w' => e = .returned (.tuple #[.agg (sgC fp tp q d), .bool true]) ∧ Below w.heap.size w w' := by
  have HO := Lib.hid (Own.nil w none0)
  have ha := segB_all hs
  have hsz : s.size = 20 + d.size := by rw [hs, bytes_sz, segB_len, ← Lib.size_eq]
  obtain ⟨m, hm⟩ : ∃ m, s.size = m := ⟨_, rfl⟩
  obtain ⟨a1, a2, a3, a4, a5, a6, a7, a8, a9, hex⟩ := ha
  have A1 := Lib.hid a1
  have A2 := Lib.hid a2
  have A3 := Lib.hid a3
  have A4 := Lib.hid a4
  have A5 := Lib.hid a5
  have A6 := Lib.hid a6
  have A7 := Lib.hid a7
  have A8 := Lib.hid a8
  have A9 := Lib.hid a9
  have HP := Lib.hid (show 20 ≤ s.size ∧ s.size ≤ 1000000 by omega)
  have HQ := Lib.hid (show 1 ≤ fp ∧ fp ≤ 65535 ∧ 1 ≤ tp ∧ tp ≤ 65535 ∧ 0 ≤ q ∧ q ≤ 4294967295 ∧ 0 ≤ sum ∧ sum ≤ 65535 from ⟨p0, p1, p2, p3, q0, q1, s0, s1⟩)
  have l1 : decide ((m : Int) < 20) = false := decide_eq_false (by omega)
  have l2 : (20 ≤ m) = True := eq_true (by omega)
  have l3 : ((m : Int) < 20) = False := eq_false (by omega)
  have l4 : ((20 : Int) ≤ (m : Int)) = True := eq_true (by omega)
  have n1 : bits .and .i64 0 1 = 0 := by decide
  have n2 : bits .and .i64 0 2 = 0 := by decide
  have n3 : bits .and .i64 0 4 = 0 := by decide
  have n4 : bits .and .i64 0 8 = 0 := by decide
  have n5 : bits .and .i64 0 16 = 0 := by decide
  rw [hm] at hex
  unfold sgC
  clear a1 a2 a3 a4 a5 a6 a7 a8 a9 hsz hs p0 p1 p2 p3 q0 q1 s0 s1 hd
  obtain ⟨x1, hx1⟩ : ∃ y, w.alloc (.cells #[.string s] 9) = y := ⟨_, rfl⟩
  obtain ⟨bt, hbt⟩ : ∃ y, w.heap.size = y := ⟨_, rfl⟩
  have hO := HO.out.alloc (.cells #[.string s] 9)
  rw [hx1, hbt] at hO
  replace HO := Lib.hid (show Own w none0 x1 [blkR bt (.cells #[.string s] 9)] from hO)
  clear hO
  obtain ⟨x2, hx2⟩ : ∃ y, x1.alloc (.cells #[.int .i64 0, .int .i64 0, .int .i64 0, .int .i64 0, .bool false, .bool false, .bool false, .bool false, .int .i64 0, .int .i64 0, .bool false, .slice none 0 0, .string ⟨#[]⟩] 51) = y := ⟨_, rfl⟩
  obtain ⟨br, hbr⟩ : ∃ y, x1.heap.size = y := ⟨_, rfl⟩
  have hO := HO.out.alloc (.cells #[.int .i64 0, .int .i64 0, .int .i64 0, .int .i64 0, .bool false, .bool false, .bool false, .bool false, .int .i64 0, .int .i64 0, .bool false, .slice none 0 0, .string ⟨#[]⟩] 51)
  rw [hx2, hbr] at hO
  replace HO := Lib.hid (show Own w none0 x2 [blkR bt (.cells #[.string s] 9), blkR br (.cells #[.int .i64 0, .int .i64 0, .int .i64 0, .int .i64 0, .bool false, .bool false, .bool false, .bool false, .int .i64 0, .int .i64 0, .bool false, .slice none 0 0, .string ⟨#[]⟩] 51)] from hO)
  clear hO
  obtain ⟨x3, hx3⟩ : ∃ y, x2.alloc (.cells #[.int .i64 0] 3) = y := ⟨_, rfl⟩
  obtain ⟨ba, hba⟩ : ∃ y, x2.heap.size = y := ⟨_, rfl⟩
  have hO := HO.out.alloc (.cells #[.int .i64 0] 3)
  rw [hx3, hba] at hO
  replace HO := Lib.hid (show Own w none0 x3 [blkR bt (.cells #[.string s] 9), blkR br (.cells #[.int .i64 0, .int .i64 0, .int .i64 0, .int .i64 0, .bool false, .bool false, .bool false, .bool false, .int .i64 0, .int .i64 0, .bool false, .slice none 0 0, .string ⟨#[]⟩] 51), blkR ba (.cells #[.int .i64 0] 3)] from hO)
  clear hO
  have z2_0 : x3.cell? ⟨ba, 0, none⟩ = some (.int .i64 0) := HO.out.cell 2 rfl 0 rfl
  have y2_0 : x3.frozen? ⟨ba, 0, none⟩ = false := HO.out.frz 2 rfl 0
  obtain ⟨x4, hx4⟩ : ∃ y, x3.setCell ⟨ba, 0, none⟩ (.int .i64 0) = y := ⟨_, rfl⟩
  have hO := HO.out.setCell 2 rfl 0 (.int .i64 0)
  rw [hx4] at hO
  replace HO := Lib.hid (show Own w none0 x4 [blkR bt (.cells #[.string s] 9), blkR br (.cells #[.int .i64 0, .int .i64 0, .int .i64 0, .int .i64 0, .bool false, .bool false, .bool false, .bool false, .int .i64 0, .int .i64 0, .bool false, .slice none 0 0, .string ⟨#[]⟩] 51), blkR ba (.cells #[.int .i64 0] 3)] from hO)
  clear hO
  have z0_0 : x4.cell? ⟨bt, 0, none⟩ = some (.string s) := HO.out.cell 0 rfl 0 rfl
  go_enter Try.func33, Try.ntmps33
  have HO := Lib.hid (show Own w none0 x4 [blkR bt (.cells #[.string s] 9), blkR br (.cells #[.int .i64 0, .int .i64 0, .int .i64 0, .int .i64 0, .bool false, .bool false, .bool false, .bool false, .int .i64 0, .int .i64 0, .bool false, .slice none 0 0, .string ⟨#[]⟩] 51), blkR ba (.cells #[.int .i64 ((0 : Nat) : Int)] 3)] from HO.out)
  go_wp2_with fail
  refine (rget2 0 fp (by have := HQ.out; omega) (by have := HQ.out; omega) A1.out (by have := HP.out; omega) HP.out.2 (HO.out.cell 0 rfl 0 rfl) HO.out 2 rfl).mono ?_
  rintro e x5 ⟨rfl, hO, -⟩
  replace HO := Lib.hid (show Own w none0 x5 [blkR bt (.cells #[.string s] 9), blkR br (.cells #[.int .i64 0, .int .i64 0, .int .i64 0, .int .i64 0, .bool false, .bool false, .bool false, .bool false, .int .i64 0, .int .i64 0, .bool false, .slice none 0 0, .string ⟨#[]⟩] 51), blkR ba (.cells #[.int .i64 ((0 + 2 : Nat) : Int)] 3)] from hO)
  clear hO
  clear hx1 hbt hx2 hbr hx3 hba z2_0 y2_0 hx4 z0_0
  have HO := Lib.hid (show Own w none0 x5 [blkR bt (.cells #[.string s] 9), blkR br (.cells #[.int .i64 0, .int .i64 0, .int .i64 0, .int .i64 0, .bool false, .bool false, .bool false, .bool false, .int .i64 0, .int .i64 0, .bool false, .slice none 0 0, .string ⟨#[]⟩] 51), blkR ba (.cells #[.int .i64 ((2 : Nat) : Int)] 3)] from HO.out)
  go_wp2_with fail
  refine (rget2 2 tp (by have := HQ.out; omega) (by have := HQ.out; omega) A2.out (by have := HP.out; omega) HP.out.2 (HO.out.cell 0 rfl 0 rfl) HO.out 2 rfl).mono ?_
  rintro e x6 ⟨rfl, hO, -⟩
  replace HO := Lib.hid (show Own w none0 x6 [blkR bt (.cells #[.string s] 9), blkR br (.cells #[.int .i64 0, .int .i64 0, .int .i64 0, .int .i64 0, .bool false, .bool false, .bool false, .bool false, .int .i64 0, .int .i64 0, .bool false, .slice none 0 0, .string ⟨#[]⟩] 51), blkR ba (.cells #[.int .i64 ((2 + 2 : Nat) : Int)] 3)] from hO)
  clear hO
  have HO := Lib.hid (show Own w none0 x6 [blkR bt (.cells #[.string s] 9), blkR br (.cells #[.int .i64 0, .int .i64 0, .int .i64 0, .int .i64 0, .bool false, .bool false, .bool false, .bool false, .int .i64 0, .int .i64 0, .bool false, .slice none 0 0, .string ⟨#[]⟩] 51), blkR ba (.cells #[.int .i64 ((4 : Nat) : Int)] 3)] from HO.out)
  go_wp2_with fail
  refine (rget4 4 q (by have := HQ.out; omega) (by have := HQ.out; omega) A3.out (by have := HP.out; omega) HP.out.2 (HO.out.cell 0 rfl 0 rfl) HO.out 2 rfl).mono ?_
  rintro e x7 ⟨rfl, hO, -⟩
  replace HO := Lib.hid (show Own w none0 x7 [blkR bt (.cells #[.string s] 9), blkR br (.cells #[.int .i64 0, .int .i64 0, .int .i64 0, .int .i64 0, .bool false, .bool false, .bool false, .bool false, .int .i64 0, .int .i64 0, .bool false, .slice none 0 0, .string ⟨#[]⟩] 51), blkR ba (.cells #[.int .i64 ((4 + 4 : Nat) : Int)] 3)] from hO)
  clear hO
  have HO := Lib.hid (show Own w none0 x7 [blkR bt (.cells #[.string s] 9), blkR br (.cells #[.int .i64 0, .int .i64 0, .int .i64 0, .int .i64 0, .bool false, .bool false, .bool false, .bool false, .int .i64 0, .int .i64 0, .bool false, .slice none 0 0, .string ⟨#[]⟩] 51), blkR ba (.cells #[.int .i64 ((8 : Nat) : Int)] 3)] from HO.out)
  go_wp2_with fail
  refine (rget4 8 0 (by have := HQ.out; omega) (by have := HQ.out; omega) A4.out (by have := HP.out; omega) HP.out.2 (HO.out.cell 0 rfl 0 rfl) HO.out 2 rfl).mono ?_
  rintro e x8 ⟨rfl, hO, -⟩
  replace HO := Lib.hid (show Own w none0 x8 [blkR bt (.cells #[.string s] 9), blkR br (.cells #[.int .i64 0, .int .i64 0, .int .i64 0, .int .i64 0, .bool false, .bool false, .bool false, .bool false, .int .i64 0, .int .i64 0, .bool false, .slice none 0 0, .string ⟨#[]⟩] 51), blkR ba (.cells #[.int .i64 ((8 + 4 : Nat) : Int)] 3)] from hO)
  clear hO
  have HO := Lib.hid (show Own w none0 x8 [blkR bt (.cells #[.string s] 9), blkR br (.cells #[.int .i64 0, .int .i64 0, .int .i64 0, .int .i64 0, .bool false, .bool false, .bool false, .bool false, .int .i64 0, .int .i64 0, .bool false, .slice none 0 0, .string ⟨#[]⟩] 51), blkR ba (.cells #[.int .i64 ((12 : Nat) : Int)] 3)] from HO.out)
  obtain ⟨x9, hx9⟩ : ∃ y, x8.alloc (.cells #[.int .i64 0, .int .i64 0, .int .i64 0, .int .i64 0, .bool false, .bool false, .bool false, .bool false, .int .i64 0, .int .i64 0, .bool false, .slice none 0 0, .string ⟨#[]⟩] 51) = y := ⟨_, rfl⟩
  obtain ⟨bs, hbs⟩ : ∃ y, x8.heap.size = y := ⟨_, rfl⟩
  have hO := HO.out.alloc (.cells #[.int .i64 0, .int .i64 0, .int .i64 0, .int .i64 0, .bool false, .bool false, .bool false, .bool false, .int .i64 0, .int .i64 0, .bool false, .slice none 0 0, .string ⟨#[]⟩] 51)
  rw [hx9, hbs] at hO
  replace HO := Lib.hid (show Own w none0 x9 [blkR bt (.cells #[.string s] 9), blkR br (.cells #[.int .i64 0, .int .i64 0, .int .i64 0, .int .i64 0, .bool false, .bool false, .bool false, .bool false, .int .i64 0, .int .i64 0, .bool false, .slice none 0 0, .string ⟨#[]⟩] 51), blkR ba (.cells #[.int .i64 ((8 + 4 : Nat) : Int)] 3), blkR bs (.cells #[.int .i64 0, .int .i64 0, .int .i64 0, .int .i64 0, .bool false, .bool false, .bool false, .bool false, .int .i64 0, .int .i64 0, .bool false, .slice none 0 0, .string ⟨#[]⟩] 51)] from hO)
  clear hO
  have k3_0_10 : x9.cell? ⟨bs, 0, none⟩ = some (.int .i64 0) := HO.out.cell 3 rfl 0 rfl
  have lk3_0_10 : x9.frozen? ⟨bs, 0, none⟩ = false := HO.out.frz 3 rfl 0
  have k3_1_11 : x9.cell? ⟨bs, 1, none⟩ = some (.int .i64 0) := HO.out.cell 3 rfl 1 rfl
  have lk3_1_11 : x9.frozen? ⟨bs, 1, none⟩ = false := HO.out.frz 3 rfl 1
  have k3_2_12 : x9.cell? ⟨bs, 2, none⟩ = some (.int .i64 0) := HO.out.cell 3 rfl 2 rfl
  have lk3_2_12 : x9.frozen? ⟨bs, 2, none⟩ = false := HO.out.frz 3 rfl 2
  have k3_3_13 : x9.cell? ⟨bs, 3, none⟩ = some (.int .i64 0) := HO.out.cell 3 rfl 3 rfl
  have lk3_3_13 : x9.frozen? ⟨bs, 3, none⟩ = false := HO.out.frz 3 rfl 3
  have k3_4_14 : x9.cell? ⟨bs, 4, none⟩ = some (.bool false) := HO.out.cell 3 rfl 4 rfl
  have lk3_4_14 : x9.frozen? ⟨bs, 4, none⟩ = false := HO.out.frz 3 rfl 4
  have k3_5_15 : x9.cell? ⟨bs, 5, none⟩ = some (.bool false) := HO.out.cell 3 rfl 5 rfl
  have lk3_5_15 : x9.frozen? ⟨bs, 5, none⟩ = false := HO.out.frz 3 rfl 5
  have k3_6_16 : x9.cell? ⟨bs, 6, none⟩ = some (.bool false) := HO.out.cell 3 rfl 6 rfl
  have lk3_6_16 : x9.frozen? ⟨bs, 6, none⟩ = false := HO.out.frz 3 rfl 6
  have k3_7_17 : x9.cell? ⟨bs, 7, none⟩ = some (.bool false) := HO.out.cell 3 rfl 7 rfl
  have lk3_7_17 : x9.frozen? ⟨bs, 7, none⟩ = false := HO.out.frz 3 rfl 7
  have k3_8_18 : x9.cell? ⟨bs, 8, none⟩ = some (.int .i64 0) := HO.out.cell 3 rfl 8 rfl
  have lk3_8_18 : x9.frozen? ⟨bs, 8, none⟩ = false := HO.out.frz 3 rfl 8
  have k3_9_19 : x9.cell? ⟨bs, 9, none⟩ = some (.int .i64 0) := HO.out.cell 3 rfl 9 rfl
  have lk3_9_19 : x9.frozen? ⟨bs, 9, none⟩ = false := HO.out.frz 3 rfl 9
  have k3_10_20 : x9.cell? ⟨bs, 10, none⟩ = some (.bool false) := HO.out.cell 3 rfl 10 rfl
  have lk3_10_20 : x9.frozen? ⟨bs, 10, none⟩ = false := HO.out.frz 3 rfl 10
  have k3_11_21 : x9.cell? ⟨bs, 11, none⟩ = some (.slice none 0 0) := HO.out.cell 3 rfl 11 rfl
  have lk3_11_21 : x9.frozen? ⟨bs, 11, none⟩ = false := HO.out.frz 3 rfl 11
  have k3_12_22 : x9.cell? ⟨bs, 12, none⟩ = some (.string ⟨#[]⟩) := HO.out.cell 3 rfl 12 rfl
  have lk3_12_22 : x9.frozen? ⟨bs, 12, none⟩ = false := HO.out.frz 3 rfl 12
  obtain ⟨x23, hx23⟩ : ∃ y, x9.setCell ⟨bs, 0, none⟩ (.int .i64 fp) = y := ⟨_, rfl⟩
  have hO := HO.out.setCell 3 rfl 0 (.int .i64 fp)
  rw [hx23] at hO
  replace HO := Lib.hid (show Own w none0 x23 [blkR bt (.cells #[.string s] 9), blkR br (.cells #[.int .i64 0, .int .i64 0, .int .i64 0, .int .i64 0, .bool false, .bool false, .bool false, .bool false, .int .i64 0, .int .i64 0, .bool false, .slice none 0 0, .string ⟨#[]⟩] 51), blkR ba (.cells #[.int .i64 ((8 + 4 : Nat) : Int)] 3), blkR bs (.cells #[.int .i64 fp, .int .i64 0, .int .i64 0, .int .i64 0, .bool false, .bool false, .bool false, .bool false, .int .i64 0, .int .i64 0, .bool false, .slice none 0 0, .string ⟨#[]⟩] 51)] from hO)
  clear hO
  have k3_1_24 : x23.cell? ⟨bs, 1, none⟩ = some (.int .i64 0) := HO.out.cell 3 rfl 1 rfl
  have lk3_1_24 : x23.frozen? ⟨bs, 1, none⟩ = false := HO.out.frz 3 rfl 1
  have k3_2_25 : x23.cell? ⟨bs, 2, none⟩ = some (.int .i64 0) := HO.out.cell 3 rfl 2 rfl
  have lk3_2_25 : x23.frozen? ⟨bs, 2, none⟩ = false := HO.out.frz 3 rfl 2
  have k3_3_26 : x23.cell? ⟨bs, 3, none⟩ = some (.int .i64 0) := HO.out.cell 3 rfl 3 rfl
  have lk3_3_26 : x23.frozen? ⟨bs, 3, none⟩ = false := HO.out.frz 3 rfl 3
  have k3_4_27 : x23.cell? ⟨bs, 4, none⟩ = some (.bool false) := HO.out.cell 3 rfl 4 rfl
  have lk3_4_27 : x23.frozen? ⟨bs, 4, none⟩ = false := HO.out.frz 3 rfl 4
  have k3_5_28 : x23.cell? ⟨bs, 5, none⟩ = some (.bool false) := HO.out.cell 3 rfl 5 rfl
  have lk3_5_28 : x23.frozen? ⟨bs, 5, none⟩ = false := HO.out.frz 3 rfl 5
  have k3_6_29 : x23.cell? ⟨bs, 6, none⟩ = some (.bool false) := HO.out.cell 3 rfl 6 rfl
  have lk3_6_29 : x23.frozen? ⟨bs, 6, none⟩ = false := HO.out.frz 3 rfl 6
  have k3_7_30 : x23.cell? ⟨bs, 7, none⟩ = some (.bool false) := HO.out.cell 3 rfl 7 rfl
  have lk3_7_30 : x23.frozen? ⟨bs, 7, none⟩ = false := HO.out.frz 3 rfl 7
  have k3_8_31 : x23.cell? ⟨bs, 8, none⟩ = some (.int .i64 0) := HO.out.cell 3 rfl 8 rfl
  have lk3_8_31 : x23.frozen? ⟨bs, 8, none⟩ = false := HO.out.frz 3 rfl 8
  have k3_9_32 : x23.cell? ⟨bs, 9, none⟩ = some (.int .i64 0) := HO.out.cell 3 rfl 9 rfl
  have lk3_9_32 : x23.frozen? ⟨bs, 9, none⟩ = false := HO.out.frz 3 rfl 9
  have k3_10_33 : x23.cell? ⟨bs, 10, none⟩ = some (.bool false) := HO.out.cell 3 rfl 10 rfl
  have lk3_10_33 : x23.frozen? ⟨bs, 10, none⟩ = false := HO.out.frz 3 rfl 10
  have k3_11_34 : x23.cell? ⟨bs, 11, none⟩ = some (.slice none 0 0) := HO.out.cell 3 rfl 11 rfl
  have lk3_11_34 : x23.frozen? ⟨bs, 11, none⟩ = false := HO.out.frz 3 rfl 11
  have k3_12_35 : x23.cell? ⟨bs, 12, none⟩ = some (.string ⟨#[]⟩) := HO.out.cell 3 rfl 12 rfl
  have lk3_12_35 : x23.frozen? ⟨bs, 12, none⟩ = false := HO.out.frz 3 rfl 12
  obtain ⟨x36, hx36⟩ : ∃ y, x23.setCell ⟨bs, 1, none⟩ (.int .i64 tp) = y := ⟨_, rfl⟩
  have hO := HO.out.setCell 3 rfl 1 (.int .i64 tp)
  rw [hx36] at hO
  replace HO := Lib.hid (show Own w none0 x36 [blkR bt (.cells #[.string s] 9), blkR br (.cells #[.int .i64 0, .int .i64 0, .int .i64 0, .int .i64 0, .bool false, .bool false, .bool false, .bool false, .int .i64 0, .int .i64 0, .bool false, .slice none 0 0, .string ⟨#[]⟩] 51), blkR ba (.cells #[.int .i64 ((8 + 4 : Nat) : Int)] 3), blkR bs (.cells #[.int .i64 fp, .int .i64 tp, .int .i64 0, .int .i64 0, .bool false, .bool false, .bool false, .bool false, .int .i64 0, .int .i64 0, .bool false, .slice none 0 0, .string ⟨#[]⟩] 51)] from hO)
  clear hO
  have k3_2_37 : x36.cell? ⟨bs, 2, none⟩ = some (.int .i64 0) := HO.out.cell 3 rfl 2 rfl
  have lk3_2_37 : x36.frozen? ⟨bs, 2, none⟩ = false := HO.out.frz 3 rfl 2
  have k3_3_38 : x36.cell? ⟨bs, 3, none⟩ = some (.int .i64 0) := HO.out.cell 3 rfl 3 rfl
  have lk3_3_38 : x36.frozen? ⟨bs, 3, none⟩ = false := HO.out.frz 3 rfl 3
  have k3_4_39 : x36.cell? ⟨bs, 4, none⟩ = some (.bool false) := HO.out.cell 3 rfl 4 rfl
  have lk3_4_39 : x36.frozen? ⟨bs, 4, none⟩ = false := HO.out.frz 3 rfl 4
  have k3_5_40 : x36.cell? ⟨bs, 5, none⟩ = some (.bool false) := HO.out.cell 3 rfl 5 rfl
  have lk3_5_40 : x36.frozen? ⟨bs, 5, none⟩ = false := HO.out.frz 3 rfl 5
  have k3_6_41 : x36.cell? ⟨bs, 6, none⟩ = some (.bool false) := HO.out.cell 3 rfl 6 rfl
  have lk3_6_41 : x36.frozen? ⟨bs, 6, none⟩ = false := HO.out.frz 3 rfl 6
  have k3_7_42 : x36.cell? ⟨bs, 7, none⟩ = some (.bool false) := HO.out.cell 3 rfl 7 rfl
  have lk3_7_42 : x36.frozen? ⟨bs, 7, none⟩ = false := HO.out.frz 3 rfl 7
  have k3_8_43 : x36.cell? ⟨bs, 8, none⟩ = some (.int .i64 0) := HO.out.cell 3 rfl 8 rfl
  have lk3_8_43 : x36.frozen? ⟨bs, 8, none⟩ = false := HO.out.frz 3 rfl 8
  have k3_9_44 : x36.cell? ⟨bs, 9, none⟩ = some (.int .i64 0) := HO.out.cell 3 rfl 9 rfl
  have lk3_9_44 : x36.frozen? ⟨bs, 9, none⟩ = false := HO.out.frz 3 rfl 9
  have k3_10_45 : x36.cell? ⟨bs, 10, none⟩ = some (.bool false) := HO.out.cell 3 rfl 10 rfl
  have lk3_10_45 : x36.frozen? ⟨bs, 10, none⟩ = false := HO.out.frz 3 rfl 10
  have k3_11_46 : x36.cell? ⟨bs, 11, none⟩ = some (.slice none 0 0) := HO.out.cell 3 rfl 11 rfl
  have lk3_11_46 : x36.frozen? ⟨bs, 11, none⟩ = false := HO.out.frz 3 rfl 11
  have k3_12_47 : x36.cell? ⟨bs, 12, none⟩ = some (.string ⟨#[]⟩) := HO.out.cell 3 rfl 12 rfl
  have lk3_12_47 : x36.frozen? ⟨bs, 12, none⟩ = false := HO.out.frz 3 rfl 12
  obtain ⟨x48, hx48⟩ : ∃ y, x36.setCell ⟨bs, 2, none⟩ (.int .i64 q) = y := ⟨_, rfl⟩
  have hO := HO.out.setCell 3 rfl 2 (.int .i64 q)
  rw [hx48] at hO
  replace HO := Lib.hid (show Own w none0 x48 [blkR bt (.cells #[.string s] 9), blkR br (.cells #[.int .i64 0, .int .i64 0, .int .i64 0, .int .i64 0, .bool false, .bool false, .bool false, .bool false, .int .i64 0, .int .i64 0, .bool false, .slice none 0 0, .string ⟨#[]⟩] 51), blkR ba (.cells #[.int .i64 ((8 + 4 : Nat) : Int)] 3), blkR bs (.cells #[.int .i64 fp, .int .i64 tp, .int .i64 q, .int .i64 0, .bool false, .bool false, .bool false, .bool false, .int .i64 0, .int .i64 0, .bool false, .slice none 0 0, .string ⟨#[]⟩] 51)] from hO)
  clear hO
  have k3_3_49 : x48.cell? ⟨bs, 3, none⟩ = some (.int .i64 0) := HO.out.cell 3 rfl 3 rfl
  have lk3_3_49 : x48.frozen? ⟨bs, 3, none⟩ = false := HO.out.frz 3 rfl 3
  have k3_4_50 : x48.cell? ⟨bs, 4, none⟩ = some (.bool false) := HO.out.cell 3 rfl 4 rfl
  have lk3_4_50 : x48.frozen? ⟨bs, 4, none⟩ = false := HO.out.frz 3 rfl 4
  have k3_5_51 : x48.cell? ⟨bs, 5, none⟩ = some (.bool false) := HO.out.cell 3 rfl 5 rfl
  have lk3_5_51 : x48.frozen? ⟨bs, 5, none⟩ = false := HO.out.frz 3 rfl 5
  have k3_6_52 : x48.cell? ⟨bs, 6, none⟩ = some (.bool false) := HO.out.cell 3 rfl 6 rfl
  have lk3_6_52 : x48.frozen? ⟨bs, 6, none⟩ = false := HO.out.frz 3 rfl 6
  have k3_7_53 : x48.cell? ⟨bs, 7, none⟩ = some (.bool false) := HO.out.cell 3 rfl 7 rfl
  have lk3_7_53 : x48.frozen? ⟨bs, 7, none⟩ = false := HO.out.frz 3 rfl 7
  have k3_8_54 : x48.cell? ⟨bs, 8, none⟩ = some (.int .i64 0) := HO.out.cell 3 rfl 8 rfl
  have lk3_8_54 : x48.frozen? ⟨bs, 8, none⟩ = false := HO.out.frz 3 rfl 8
  have k3_9_55 : x48.cell? ⟨bs, 9, none⟩ = some (.int .i64 0) := HO.out.cell 3 rfl 9 rfl
  have lk3_9_55 : x48.frozen? ⟨bs, 9, none⟩ = false := HO.out.frz 3 rfl 9
  have k3_10_56 : x48.cell? ⟨bs, 10, none⟩ = some (.bool false) := HO.out.cell 3 rfl 10 rfl
  have lk3_10_56 : x48.frozen? ⟨bs, 10, none⟩ = false := HO.out.frz 3 rfl 10
  have k3_11_57 : x48.cell? ⟨bs, 11, none⟩ = some (.slice none 0 0) := HO.out.cell 3 rfl 11 rfl
  have lk3_11_57 : x48.frozen? ⟨bs, 11, none⟩ = false := HO.out.frz 3 rfl 11
  have k3_12_58 : x48.cell? ⟨bs, 12, none⟩ = some (.string ⟨#[]⟩) := HO.out.cell 3 rfl 12 rfl
  have lk3_12_58 : x48.frozen? ⟨bs, 12, none⟩ = false := HO.out.frz 3 rfl 12
  obtain ⟨x59, hx59⟩ : ∃ y, x48.setCell ⟨bs, 3, none⟩ (.int .i64 0) = y := ⟨_, rfl⟩
  have hO := HO.out.setCell 3 rfl 3 (.int .i64 0)
  rw [hx59] at hO
  replace HO := Lib.hid (show Own w none0 x59 [blkR bt (.cells #[.string s] 9), blkR br (.cells #[.int .i64 0, .int .i64 0, .int .i64 0, .int .i64 0, .bool false, .bool false, .bool false, .bool false, .int .i64 0, .int .i64 0, .bool false, .slice none 0 0, .string ⟨#[]⟩] 51), blkR ba (.cells #[.int .i64 ((8 + 4 : Nat) : Int)] 3), blkR bs (.cells #[.int .i64 fp, .int .i64 tp, .int .i64 q, .int .i64 0, .bool false, .bool false, .bool false, .bool false, .int .i64 0, .int .i64 0, .bool false, .slice none 0 0, .string ⟨#[]⟩] 51)] from hO)
  clear hO
  have k3_4_60 : x59.cell? ⟨bs, 4, none⟩ = some (.bool false) := HO.out.cell 3 rfl 4 rfl
  have lk3_4_60 : x59.frozen? ⟨bs, 4, none⟩ = false := HO.out.frz 3 rfl 4
  have k3_5_61 : x59.cell? ⟨bs, 5, none⟩ = some (.bool false) := HO.out.cell 3 rfl 5 rfl
  have lk3_5_61 : x59.frozen? ⟨bs, 5, none⟩ = false := HO.out.frz 3 rfl 5
  have k3_6_62 : x59.cell? ⟨bs, 6, none⟩ = some (.bool false) := HO.out.cell 3 rfl 6 rfl
  have lk3_6_62 : x59.frozen? ⟨bs, 6, none⟩ = false := HO.out.frz 3 rfl 6
  have k3_7_63 : x59.cell? ⟨bs, 7, none⟩ = some (.bool false) := HO.out.cell 3 rfl 7 rfl
  have lk3_7_63 : x59.frozen? ⟨bs, 7, none⟩ = false := HO.out.frz 3 rfl 7
  have k3_8_64 : x59.cell? ⟨bs, 8, none⟩ = some (.int .i64 0) := HO.out.cell 3 rfl 8 rfl
  have lk3_8_64 : x59.frozen? ⟨bs, 8, none⟩ = false := HO.out.frz 3 rfl 8
  have k3_9_65 : x59.cell? ⟨bs, 9, none⟩ = some (.int .i64 0) := HO.out.cell 3 rfl 9 rfl
  have lk3_9_65 : x59.frozen? ⟨bs, 9, none⟩ = false := HO.out.frz 3 rfl 9
  have k3_10_66 : x59.cell? ⟨bs, 10, none⟩ = some (.bool false) := HO.out.cell 3 rfl 10 rfl
  have lk3_10_66 : x59.frozen? ⟨bs, 10, none⟩ = false := HO.out.frz 3 rfl 10
  have k3_11_67 : x59.cell? ⟨bs, 11, none⟩ = some (.slice none 0 0) := HO.out.cell 3 rfl 11 rfl
  have lk3_11_67 : x59.frozen? ⟨bs, 11, none⟩ = false := HO.out.frz 3 rfl 11
  have k3_12_68 : x59.cell? ⟨bs, 12, none⟩ = some (.string ⟨#[]⟩) := HO.out.cell 3 rfl 12 rfl
  have lk3_12_68 : x59.frozen? ⟨bs, 12, none⟩ = false := HO.out.frz 3 rfl 12
  obtain ⟨x69, hx69⟩ : ∃ y, x59.setCell ⟨bs, 4, none⟩ (.bool false) = y := ⟨_, rfl⟩
  have hO := HO.out.setCell 3 rfl 4 (.bool false)
  rw [hx69] at hO
  replace HO := Lib.hid (show Own w none0 x69 [blkR bt (.cells #[.string s] 9), blkR br (.cells #[.int .i64 0, .int .i64 0, .int .i64 0, .int .i64 0, .bool false, .bool false, .bool false, .bool false, .int .i64 0, .int .i64 0, .bool false, .slice none 0 0, .string ⟨#[]⟩] 51), blkR ba (.cells #[.int .i64 ((8 + 4 : Nat) : Int)] 3), blkR bs (.cells #[.int .i64 fp, .int .i64 tp, .int .i64 q, .int .i64 0, .bool false, .bool false, .bool false, .bool false, .int .i64 0, .int .i64 0, .bool false, .slice none 0 0, .string ⟨#[]⟩] 51)] from hO)
  clear hO
  have k3_5_70 : x69.cell? ⟨bs, 5, none⟩ = some (.bool false) := HO.out.cell 3 rfl 5 rfl
  have lk3_5_70 : x69.frozen? ⟨bs, 5, none⟩ = false := HO.out.frz 3 rfl 5
  have k3_6_71 : x69.cell? ⟨bs, 6, none⟩ = some (.bool false) := HO.out.cell 3 rfl 6 rfl
  have lk3_6_71 : x69.frozen? ⟨bs, 6, none⟩ = false := HO.out.frz 3 rfl 6
  have k3_7_72 : x69.cell? ⟨bs, 7, none⟩ = some (.bool false) := HO.out.cell 3 rfl 7 rfl
  have lk3_7_72 : x69.frozen? ⟨bs, 7, none⟩ = false := HO.out.frz 3 rfl 7
  have k3_8_73 : x69.cell? ⟨bs, 8, none⟩ = some (.int .i64 0) := HO.out.cell 3 rfl 8 rfl
  have lk3_8_73 : x69.frozen? ⟨bs, 8, none⟩ = false := HO.out.frz 3 rfl 8
  have k3_9_74 : x69.cell? ⟨bs, 9, none⟩ = some (.int .i64 0) := HO.out.cell 3 rfl 9 rfl
  have lk3_9_74 : x69.frozen? ⟨bs, 9, none⟩ = false := HO.out.frz 3 rfl 9
  have k3_10_75 : x69.cell? ⟨bs, 10, none⟩ = some (.bool false) := HO.out.cell 3 rfl 10 rfl
  have lk3_10_75 : x69.frozen? ⟨bs, 10, none⟩ = false := HO.out.frz 3 rfl 10
  have k3_11_76 : x69.cell? ⟨bs, 11, none⟩ = some (.slice none 0 0) := HO.out.cell 3 rfl 11 rfl
  have lk3_11_76 : x69.frozen? ⟨bs, 11, none⟩ = false := HO.out.frz 3 rfl 11
  have k3_12_77 : x69.cell? ⟨bs, 12, none⟩ = some (.string ⟨#[]⟩) := HO.out.cell 3 rfl 12 rfl
  have lk3_12_77 : x69.frozen? ⟨bs, 12, none⟩ = false := HO.out.frz 3 rfl 12
  obtain ⟨x78, hx78⟩ : ∃ y, x69.setCell ⟨bs, 5, none⟩ (.bool false) = y := ⟨_, rfl⟩
  have hO := HO.out.setCell 3 rfl 5 (.bool false)
  rw [hx78] at hO
  replace HO := Lib.hid (show Own w none0 x78 [blkR bt (.cells #[.string s] 9), blkR br (.cells #[.int .i64 0, .int .i64 0, .int .i64 0, .int .i64 0, .bool false, .bool false, .bool false, .bool false, .int .i64 0, .int .i64 0, .bool false, .slice none 0 0, .string ⟨#[]⟩] 51), blkR ba (.cells #[.int .i64 ((8 + 4 : Nat) : Int)] 3), blkR bs (.cells #[.int .i64 fp, .int .i64 tp, .int .i64 q, .int .i64 0, .bool false, .bool false, .bool false, .bool false, .int .i64 0, .int .i64 0, .bool false, .slice none 0 0, .string ⟨#[]⟩] 51)] from hO)
  clear hO
  have k3_6_79 : x78.cell? ⟨bs, 6, none⟩ = some (.bool false) := HO.out.cell 3 rfl 6 rfl
  have lk3_6_79 : x78.frozen? ⟨bs, 6, none⟩ = false := HO.out.frz 3 rfl 6
  have k3_7_80 : x78.cell? ⟨bs, 7, none⟩ = some (.bool false) := HO.out.cell 3 rfl 7 rfl
  have lk3_7_80 : x78.frozen? ⟨bs, 7, none⟩ = false := HO.out.frz 3 rfl 7
  have k3_8_81 : x78.cell? ⟨bs, 8, none⟩ = some (.int .i64 0) := HO.out.cell 3 rfl 8 rfl
  have lk3_8_81 : x78.frozen? ⟨bs, 8, none⟩ = false := HO.out.frz 3 rfl 8
  have k3_9_82 : x78.cell? ⟨bs, 9, none⟩ = some (.int .i64 0) := HO.out.cell 3 rfl 9 rfl
  have lk3_9_82 : x78.frozen? ⟨bs, 9, none⟩ = false := HO.out.frz 3 rfl 9
  have k3_10_83 : x78.cell? ⟨bs, 10, none⟩ = some (.bool false) := HO.out.cell 3 rfl 10 rfl
  have lk3_10_83 : x78.frozen? ⟨bs, 10, none⟩ = false := HO.out.frz 3 rfl 10
  have k3_11_84 : x78.cell? ⟨bs, 11, none⟩ = some (.slice none 0 0) := HO.out.cell 3 rfl 11 rfl
  have lk3_11_84 : x78.frozen? ⟨bs, 11, none⟩ = false := HO.out.frz 3 rfl 11
  have k3_12_85 : x78.cell? ⟨bs, 12, none⟩ = some (.string ⟨#[]⟩) := HO.out.cell 3 rfl 12 rfl
  have lk3_12_85 : x78.frozen? ⟨bs, 12, none⟩ = false := HO.out.frz 3 rfl 12
  obtain ⟨x86, hx86⟩ : ∃ y, x78.setCell ⟨bs, 6, none⟩ (.bool false) = y := ⟨_, rfl⟩
  have hO := HO.out.setCell 3 rfl 6 (.bool false)
  rw [hx86] at hO
  replace HO := Lib.hid (show Own w none0 x86 [blkR bt (.cells #[.string s] 9), blkR br (.cells #[.int .i64 0, .int .i64 0, .int .i64 0, .int .i64 0, .bool false, .bool false, .bool false, .bool false, .int .i64 0, .int .i64 0, .bool false, .slice none 0 0, .string ⟨#[]⟩] 51), blkR ba (.cells #[.int .i64 ((8 + 4 : Nat) : Int)] 3), blkR bs (.cells #[.int .i64 fp, .int .i64 tp, .int .i64 q, .int .i64 0, .bool false, .bool false, .bool false, .bool false, .int .i64 0, .int .i64 0, .bool false, .slice none 0 0, .string ⟨#[]⟩] 51)] from hO)
  clear hO
  have k3_7_87 : x86.cell? ⟨bs, 7, none⟩ = some (.bool false) := HO.out.cell 3 rfl 7 rfl
  have lk3_7_87 : x86.frozen? ⟨bs, 7, none⟩ = false := HO.out.frz 3 rfl 7
  have k3_8_88 : x86.cell? ⟨bs, 8, none⟩ = some (.int .i64 0) := HO.out.cell 3 rfl 8 rfl
  have lk3_8_88 : x86.frozen? ⟨bs, 8, none⟩ = false := HO.out.frz 3 rfl 8
  have k3_9_89 : x86.cell? ⟨bs, 9, none⟩ = some (.int .i64 0) := HO.out.cell 3 rfl 9 rfl
  have lk3_9_89 : x86.frozen? ⟨bs, 9, none⟩ = false := HO.out.frz 3 rfl 9
  have k3_10_90 : x86.cell? ⟨bs, 10, none⟩ = some (.bool false) := HO.out.cell 3 rfl 10 rfl
  have lk3_10_90 : x86.frozen? ⟨bs, 10, none⟩ = false := HO.out.frz 3 rfl 10
  have k3_11_91 : x86.cell? ⟨bs, 11, none⟩ = some (.slice none 0 0) := HO.out.cell 3 rfl 11 rfl
  have lk3_11_91 : x86.frozen? ⟨bs, 11, none⟩ = false := HO.out.frz 3 rfl 11
  have k3_12_92 : x86.cell? ⟨bs, 12, none⟩ = some (.string ⟨#[]⟩) := HO.out.cell 3 rfl 12 rfl
  have lk3_12_92 : x86.frozen? ⟨bs, 12, none⟩ = false := HO.out.frz 3 rfl 12
  obtain ⟨x93, hx93⟩ : ∃ y, x86.setCell ⟨bs, 7, none⟩ (.bool false) = y := ⟨_, rfl⟩
  have hO := HO.out.setCell 3 rfl 7 (.bool false)
  rw [hx93] at hO
  replace HO := Lib.hid (show Own w none0 x93 [blkR bt (.cells #[.string s] 9), blkR br (.cells #[.int .i64 0, .int .i64 0, .int .i64 0, .int .i64 0, .bool false, .bool false, .bool false, .bool false, .int .i64 0, .int .i64 0, .bool false, .slice none 0 0, .string ⟨#[]⟩] 51), blkR ba (.cells #[.int .i64 ((8 + 4 : Nat) : Int)] 3), blkR bs (.cells #[.int .i64 fp, .int .i64 tp, .int .i64 q, .int .i64 0, .bool false, .bool false, .bool false, .bool false, .int .i64 0, .int .i64 0, .bool false, .slice none 0 0, .string ⟨#[]⟩] 51)] from hO)
  clear hO
  have k3_8_94 : x93.cell? ⟨bs, 8, none⟩ = some (.int .i64 0) := HO.out.cell 3 rfl 8 rfl
  have lk3_8_94 : x93.frozen? ⟨bs, 8, none⟩ = false := HO.out.frz 3 rfl 8
  have k3_9_95 : x93.cell? ⟨bs, 9, none⟩ = some (.int .i64 0) := HO.out.cell 3 rfl 9 rfl
  have lk3_9_95 : x93.frozen? ⟨bs, 9, none⟩ = false := HO.out.frz 3 rfl 9
  have k3_10_96 : x93.cell? ⟨bs, 10, none⟩ = some (.bool false) := HO.out.cell 3 rfl 10 rfl
  have lk3_10_96 : x93.frozen? ⟨bs, 10, none⟩ = false := HO.out.frz 3 rfl 10
  have k3_11_97 : x93.cell? ⟨bs, 11, none⟩ = some (.slice none 0 0) := HO.out.cell 3 rfl 11 rfl
  have lk3_11_97 : x93.frozen? ⟨bs, 11, none⟩ = false := HO.out.frz 3 rfl 11
  have k3_12_98 : x93.cell? ⟨bs, 12, none⟩ = some (.string ⟨#[]⟩) := HO.out.cell 3 rfl 12 rfl
  have lk3_12_98 : x93.frozen? ⟨bs, 12, none⟩ = false := HO.out.frz 3 rfl 12
  obtain ⟨x99, hx99⟩ : ∃ y, x93.setCell ⟨bs, 8, none⟩ (.int .i64 0) = y := ⟨_, rfl⟩
  have hO := HO.out.setCell 3 rfl 8 (.int .i64 0)
  rw [hx99] at hO
  replace HO := Lib.hid (show Own w none0 x99 [blkR bt (.cells #[.string s] 9), blkR br (.cells #[.int .i64 0, .int .i64 0, .int .i64 0, .int .i64 0, .bool false, .bool false, .bool false, .bool false, .int .i64 0, .int .i64 0, .bool false, .slice none 0 0, .string ⟨#[]⟩] 51), blkR ba (.cells #[.int .i64 ((8 + 4 : Nat) : Int)] 3), blkR bs (.cells #[.int .i64 fp, .int .i64 tp, .int .i64 q, .int .i64 0, .bool false, .bool false, .bool false, .bool false, .int .i64 0, .int .i64 0, .bool false, .slice none 0 0, .string ⟨#[]⟩] 51)] from hO)
  clear hO
  have k3_9_100 : x99.cell? ⟨bs, 9, none⟩ = some (.int .i64 0) := HO.out.cell 3 rfl 9 rfl
  have lk3_9_100 : x99.frozen? ⟨bs, 9, none⟩ = false := HO.out.frz 3 rfl 9
  have k3_10_101 : x99.cell? ⟨bs, 10, none⟩ = some (.bool false) := HO.out.cell 3 rfl 10 rfl
  have lk3_10_101 : x99.frozen? ⟨bs, 10, none⟩ = false := HO.out.frz 3 rfl 10
  have k3_11_102 : x99.cell? ⟨bs, 11, none⟩ = some (.slice none 0 0) := HO.out.cell 3 rfl 11 rfl
  have lk3_11_102 : x99.frozen? ⟨bs, 11, none⟩ = false := HO.out.frz 3 rfl 11
  have k3_12_103 : x99.cell? ⟨bs, 12, none⟩ = some (.string ⟨#[]⟩) := HO.out.cell 3 rfl 12 rfl
  have lk3_12_103 : x99.frozen? ⟨bs, 12, none⟩ = false := HO.out.frz 3 rfl 12
  obtain ⟨x104, hx104⟩ : ∃ y, x99.setCell ⟨bs, 9, none⟩ (.int .i64 0) = y := ⟨_, rfl⟩
  have hO := HO.out.setCell 3 rfl 9 (.int .i64 0)
  rw [hx104] at hO
  replace HO := Lib.hid (show Own w none0 x104 [blkR bt (.cells #[.string s] 9), blkR br (.cells #[.int .i64 0, .int .i64 0, .int .i64 0, .int .i64 0, .bool false, .bool false, .bool false, .bool false, .int .i64 0, .int .i64 0, .bool false, .slice none 0 0, .string ⟨#[]⟩] 51), blkR ba (.cells #[.int .i64 ((8 + 4 : Nat) : Int)] 3), blkR bs (.cells #[.int .i64 fp, .int .i64 tp, .int .i64 q, .int .i64 0, .bool false, .bool false, .bool false, .bool false, .int .i64 0, .int .i64 0, .bool false, .slice none 0 0, .string ⟨#[]⟩] 51)] from hO)
  clear hO
  have k3_10_105 : x104.cell? ⟨bs, 10, none⟩ = some (.bool false) := HO.out.cell 3 rfl 10 rfl
  have lk3_10_105 : x104.frozen? ⟨bs, 10, none⟩ = false := HO.out.frz 3 rfl 10
  have k3_11_106 : x104.cell? ⟨bs, 11, none⟩ = some (.slice none 0 0) := HO.out.cell 3 rfl 11 rfl
  have lk3_11_106 : x104.frozen? ⟨bs, 11, none⟩ = false := HO.out.frz 3 rfl 11
  have k3_12_107 : x104.cell? ⟨bs, 12, none⟩ = some (.string ⟨#[]⟩) := HO.out.cell 3 rfl 12 rfl
  have lk3_12_107 : x104.frozen? ⟨bs, 12, none⟩ = false := HO.out.frz 3 rfl 12
  obtain ⟨x108, hx108⟩ : ∃ y, x104.setCell ⟨bs, 10, none⟩ (.bool false) = y := ⟨_, rfl⟩
  have hO := HO.out.setCell 3 rfl 10 (.bool false)
  rw [hx108] at hO
  replace HO := Lib.hid (show Own w none0 x108 [blkR bt (.cells #[.string s] 9), blkR br (.cells #[.int .i64 0, .int .i64 0, .int .i64 0, .int .i64 0, .bool false, .bool false, .bool false, .bool false, .int .i64 0, .int .i64 0, .bool false, .slice none 0 0, .string ⟨#[]⟩] 51), blkR ba (.cells #[.int .i64 ((8 + 4 : Nat) : Int)] 3), blkR bs (.cells #[.int .i64 fp, .int .i64 tp, .int .i64 q, .int .i64 0, .bool false, .bool false, .bool false, .bool false, .int .i64 0, .int .i64 0, .bool false, .slice none 0 0, .string ⟨#[]⟩] 51)] from hO)
  clear hO
  have k3_11_109 : x108.cell? ⟨bs, 11, none⟩ = some (.slice none 0 0) := HO.out.cell 3 rfl 11 rfl
  have lk3_11_109 : x108.frozen? ⟨bs, 11, none⟩ = false := HO.out.frz 3 rfl 11
  have k3_12_110 : x108.cell? ⟨bs, 12, none⟩ = some (.string ⟨#[]⟩) := HO.out.cell 3 rfl 12 rfl
  have lk3_12_110 : x108.frozen? ⟨bs, 12, none⟩ = false := HO.out.frz 3 rfl 12
  obtain ⟨x111, hx111⟩ : ∃ y, x108.setCell ⟨bs, 11, none⟩ (.slice none 0 0) = y := ⟨_, rfl⟩
  have hO := HO.out.setCell 3 rfl 11 (.slice none 0 0)
  rw [hx111] at hO
  replace HO := Lib.hid (show Own w none0 x111 [blkR bt (.cells #[.string s] 9), blkR br (.cells #[.int .i64 0, .int .i64 0, .int .i64 0, .int .i64 0, .bool false, .bool false, .bool false, .bool false, .int .i64 0, .int .i64 0, .bool false, .slice none 0 0, .string ⟨#[]⟩] 51), blkR ba (.cells #[.int .i64 ((8 + 4 : Nat) : Int)] 3), blkR bs (.cells #[.int .i64 fp, .int .i64 tp, .int .i64 q, .int .i64 0, .bool false, .bool false, .bool false, .bool false, .int .i64 0, .int .i64 0, .bool false, .slice none 0 0, .string ⟨#[]⟩] 51)] from hO)
  clear hO
  have k3_12_112 : x111.cell? ⟨bs, 12, none⟩ = some (.string ⟨#[]⟩) := HO.out.cell 3 rfl 12 rfl
  have lk3_12_112 : x111.frozen? ⟨bs, 12, none⟩ = false := HO.out.frz 3 rfl 12
  obtain ⟨x113, hx113⟩ : ∃ y, x111.setCell ⟨bs, 12, none⟩ (.string ⟨#[]⟩) = y := ⟨_, rfl⟩
  have hO := HO.out.setCell 3 rfl 12 (.string ⟨#[]⟩)
  rw [hx113] at hO
  replace HO := Lib.hid (show Own w none0 x113 [blkR bt (.cells #[.string s] 9), blkR br (.cells #[.int .i64 0, .int .i64 0, .int .i64 0, .int .i64 0, .bool false, .bool false, .bool false, .bool false, .int .i64 0, .int .i64 0, .bool false, .slice none 0 0, .string ⟨#[]⟩] 51), blkR ba (.cells #[.int .i64 ((8 + 4 : Nat) : Int)] 3), blkR bs (.cells #[.int .i64 fp, .int .i64 tp, .int .i64 q, .int .i64 0, .bool false, .bool false, .bool false, .bool false, .int .i64 0, .int .i64 0, .bool false, .slice none 0 0, .string ⟨#[]⟩] 51)] from hO)
  clear hO
  go_wp2_with fail
  refine (rget1 12 0 (by have := HQ.out; omega) (by have := HQ.out; omega) A5.out (by have := HP.out; omega) HP.out.2 (HO.out.cell 0 rfl 0 rfl) HO.out 2 rfl).mono ?_
  rintro e x114 ⟨rfl, hO, -⟩
  replace HO := Lib.hid (show Own w none0 x114 [blkR bt (.cells #[.string s] 9), blkR br (.cells #[.int .i64 0, .int .i64 0, .int .i64 0, .int .i64 0, .bool false, .bool false, .bool false, .bool false, .int .i64 0, .int .i64 0, .bool false, .slice none 0 0, .string ⟨#[]⟩] 51), blkR ba (.cells #[.int .i64 ((12 + 1 : Nat) : Int)] 3), blkR bs (.cells #[.int .i64 fp, .int .i64 tp, .int .i64 q, .int .i64 0, .bool false, .bool false, .bool false, .bool false, .int .i64 0, .int .i64 0, .bool false, .slice none 0 0, .string ⟨#[]⟩] 51)] from hO)
  clear hO
  clear hx9 hbs k3_0_10 lk3_0_10 k3_1_11 lk3_1_11 k3_2_12 lk3_2_12 k3_3_13 lk3_3_13 k3_4_14 lk3_4_14 k3_5_15 lk3_5_15 k3_6_16 lk3_6_16 k3_7_17 lk3_7_17 k3_8_18 lk3_8_18 k3_9_19 lk3_9_19 k3_10_20 lk3_10_20 k3_11_21 lk3_11_21 k3_12_22 lk3_12_22 hx23 k3_1_24 lk3_1_24 k3_2_25 lk3_2_25 k3_3_26 lk3_3_26 k3_4_27 lk3_4_27 k3_5_28 lk3_5_28 k3_6_29 lk3_6_29 k3_7_30 lk3_7_30 k3_8_31 lk3_8_31 k3_9_32 lk3_9_32 k3_10_33 lk3_10_33 k3_11_34 lk3_11_34 k3_12_35 lk3_12_35 hx36 k3_2_37 lk3_2_37 k3_3_38 lk3_3_38 k3_4_39 lk3_4_39 k3_5_40 lk3_5_40 k3_6_41 lk3_6_41 k3_7_42 lk3_7_42 k3_8_43 lk3_8_43 k3_9_44 lk3_9_44 k3_10_45 lk3_10_45 k3_11_46 lk3_11_46 k3_12_47 lk3_12_47 hx48 k3_3_49 lk3_3_49 k3_4_50 lk3_4_50 k3_5_51 lk3_5_51 k3_6_52 lk3_6_52 k3_7_53 lk3_7_53 k3_8_54 lk3_8_54 k3_9_55 lk3_9_55 k3_10_56 lk3_10_56 k3_11_57 lk3_11_57 k3_12_58 lk3_12_58 hx59 k3_4_60 lk3_4_60 k3_5_61 lk3_5_61 k3_6_62 lk3_6_62 k3_7_63 lk3_7_63 k3_8_64 lk3_8_64 k3_9_65 lk3_9_65 k3_10_66 lk3_10_66 k3_11_67 lk3_11_67 k3_12_68 lk3_12_68 hx69 k3_5_70 lk3_5_70 k3_6_71 lk3_6_71 k3_7_72 lk3_7_72 k3_8_73 lk3_8_73 k3_9_74 lk3_9_74 k3_10_75 lk3_10_75 k3_11_76 lk3_11_76 k3_12_77 lk3_12_77 hx78 k3_6_79 lk3_6_79 k3_7_80 lk3_7_80 k3_8_81 lk3_8_81 k3_9_82 lk3_9_82 k3_10_83 lk3_10_83 k3_11_84 lk3_11_84 k3_12_85 lk3_12_85 hx86 k3_7_87 lk3_7_87 k3_8_88 lk3_8_88 k3_9_89 lk3_9_89 k3_10_90 lk3_10_90 k3_11_91 lk3_11_91 k3_12_92 lk3_12_92 hx93 k3_8_94 lk3_8_94 k3_9_95 lk3_9_95 k3_10_96 lk3_10_96 k3_11_97 lk3_11_97 k3_12_98 lk3_12_98 hx99 k3_9_100 lk3_9_100 k3_10_101 lk3_10_101 k3_11_102 lk3_11_102 k3_12_103 lk3_12_103 hx104 k3_10_105 lk3_10_105 k3_11_106 lk3_11_106 k3_12_107 lk3_12_107 hx108 k3_11_109 lk3_11_109 k3_12_110 lk3_12_110 hx111 k3_12_112 lk3_12_112 hx113
  have HO := Lib.hid (show Own w none0 x114 [blkR bt (.cells #[.string s] 9), blkR br (.cells #[.int .i64 0, .int .i64 0, .int .i64 0, .int .i64 0, .bool false, .bool false, .bool false, .bool false, .int .i64 0, .int .i64 0, .bool false, .slice none 0 0, .string ⟨#[]⟩] 51), blkR ba (.cells #[.int .i64 ((13 : Nat) : Int)] 3), blkR bs (.cells #[.int .i64 fp, .int .i64 tp, .int .i64 q, .int .i64 0, .bool false, .bool false, .bool false, .bool false, .int .i64 0, .int .i64 0, .bool false, .slice none 0 0, .string ⟨#[]⟩] 51)] from HO.out)
  go_wp2_with fail
  refine (rget1 13 0 (by have := HQ.out; omega) (by have := HQ.out; omega) A6.out (by have := HP.out; omega) HP.out.2 (HO.out.cell 0 rfl 0 rfl) HO.out 2 rfl).mono ?_
  rintro e x115 ⟨rfl, hO, -⟩
  replace HO := Lib.hid (show Own w none0 x115 [blkR bt (.cells #[.string s] 9), blkR br (.cells #[.int .i64 0, .int .i64 0, .int .i64 0, .int .i64 0, .bool false, .bool false, .bool false, .bool false, .int .i64 0, .int .i64 0, .bool false, .slice none 0 0, .string ⟨#[]⟩] 51), blkR ba (.cells #[.int .i64 ((13 + 1 : Nat) : Int)] 3), blkR bs (.cells #[.int .i64 fp, .int .i64 tp, .int .i64 q, .int .i64 0, .bool false, .bool false, .bool false, .bool false, .int .i64 0, .int .i64 0, .bool false, .slice none 0 0, .string ⟨#[]⟩] 51)] from hO)
  clear hO
  have HO := Lib.hid (show Own w none0 x115 [blkR bt (.cells #[.string s] 9), blkR br (.cells #[.int .i64 0, .int .i64 0, .int .i64 0, .int .i64 0, .bool false, .bool false, .bool false, .bool false, .int .i64 0, .int .i64 0, .bool false, .slice none 0 0, .string ⟨#[]⟩] 51), blkR ba (.cells #[.int .i64 ((14 : Nat) : Int)] 3), blkR bs (.cells #[.int .i64 fp, .int .i64 tp, .int .i64 q, .int .i64 0, .bool false, .bool false, .bool false, .bool false, .int .i64 0, .int .i64 0, .bool false, .slice none 0 0, .string ⟨#[]⟩] 51)] from HO.out)
  have y3_4 : x115.frozen? ⟨bs, 4, none⟩ = false := HO.out.frz 3 rfl 4
  have z3_4 : x115.cell? ⟨bs, 4, none⟩ = some (.bool false) := HO.out.cell 3 rfl 4 rfl
  obtain ⟨x116, hx116⟩ : ∃ y, x115.setCell ⟨bs, 4, none⟩ (.bool false) = y := ⟨_, rfl⟩
  have hO := HO.out.setCell 3 rfl 4 (.bool false)
  rw [hx116] at hO
  replace HO := Lib.hid (show Own w none0 x116 [blkR bt (.cells #[.string s] 9), blkR br (.cells #[.int .i64 0, .int .i64 0, .int .i64 0, .int .i64 0, .bool false, .bool false, .bool false, .bool false, .int .i64 0, .int .i64 0, .bool false, .slice none 0 0, .string ⟨#[]⟩] 51), blkR ba (.cells #[.int .i64 ((13 + 1 : Nat) : Int)] 3), blkR bs (.cells #[.int .i64 fp, .int .i64 tp, .int .i64 q, .int .i64 0, .bool false, .bool false, .bool false, .bool false, .int .i64 0, .int .i64 0, .bool false, .slice none 0 0, .string ⟨#[]⟩] 51)] from hO)
  clear hO
  have y3_5 : x116.frozen? ⟨bs, 5, none⟩ = false := HO.out.frz 3 rfl 5
  have z3_5 : x116.cell? ⟨bs, 5, none⟩ = some (.bool false) := HO.out.cell 3 rfl 5 rfl
  obtain ⟨x117, hx117⟩ : ∃ y, x116.setCell ⟨bs, 5, none⟩ (.bool false) = y := ⟨_, rfl⟩
  have hO := HO.out.setCell 3 rfl 5 (.bool false)
  rw [hx117] at hO
  replace HO := Lib.hid (show Own w none0 x117 [blkR bt (.cells #[.string s] 9), blkR br (.cells #[.int .i64 0, .int .i64 0, .int .i64 0, .int .i64 0, .bool false, .bool false, .bool false, .bool false, .int .i64 0, .int .i64 0, .bool false, .slice none 0 0, .string ⟨#[]⟩] 51), blkR ba (.cells #[.int .i64 ((13 + 1 : Nat) : Int)] 3), blkR bs (.cells #[.int .i64 fp, .int .i64 tp, .int .i64 q, .int .i64 0, .bool false, .bool false, .bool false, .bool false, .int .i64 0, .int .i64 0, .bool false, .slice none 0 0, .string ⟨#[]⟩] 51)] from hO)
  clear hO
  have y3_6 : x117.frozen? ⟨bs, 6, none⟩ = false := HO.out.frz 3 rfl 6
  have z3_6 : x117.cell? ⟨bs, 6, none⟩ = some (.bool false) := HO.out.cell 3 rfl 6 rfl
  obtain ⟨x118, hx118⟩ : ∃ y, x117.setCell ⟨bs, 6, none⟩ (.bool false) = y := ⟨_, rfl⟩
  have hO := HO.out.setCell 3 rfl 6 (.bool false)
  rw [hx118] at hO
  replace HO := Lib.hid (show Own w none0 x118 [blkR bt (.cells #[.string s] 9), blkR br (.cells #[.int .i64 0, .int .i64 0, .int .i64 0, .int .i64 0, .bool false, .bool false, .bool false, .bool false, .int .i64 0, .int .i64 0, .bool false, .slice none 0 0, .string ⟨#[]⟩] 51), blkR ba (.cells #[.int .i64 ((13 + 1 : Nat) : Int)] 3), blkR bs (.cells #[.int .i64 fp, .int .i64 tp, .int .i64 q, .int .i64 0, .bool false, .bool false, .bool false, .bool false, .int .i64 0, .int .i64 0, .bool false, .slice none 0 0, .string ⟨#[]⟩] 51)] from hO)
  clear hO
  have y3_7 : x118.frozen? ⟨bs, 7, none⟩ = false := HO.out.frz 3 rfl 7
  have z3_7 : x118.cell? ⟨bs, 7, none⟩ = some (.bool false) := HO.out.cell 3 rfl 7 rfl
  obtain ⟨x119, hx119⟩ : ∃ y, x118.setCell ⟨bs, 7, none⟩ (.bool false) = y := ⟨_, rfl⟩
  have hO := HO.out.setCell 3 rfl 7 (.bool false)
  rw [hx119] at hO
  replace HO := Lib.hid (show Own w none0 x119 [blkR bt (.cells #[.string s] 9), blkR br (.cells #[.int .i64 0, .int .i64 0, .int .i64 0, .int .i64 0, .bool false, .bool false, .bool false, .bool false, .int .i64 0, .int .i64 0, .bool false, .slice none 0 0, .string ⟨#[]⟩] 51), blkR ba (.cells #[.int .i64 ((13 + 1 : Nat) : Int)] 3), blkR bs (.cells #[.int .i64 fp, .int .i64 tp, .int .i64 q, .int .i64 0, .bool false, .bool false, .bool false, .bool false, .int .i64 0, .int .i64 0, .bool false, .slice none 0 0, .string ⟨#[]⟩] 51)] from hO)
  clear hO
  have y3_10 : x119.frozen? ⟨bs, 10, none⟩ = false := HO.out.frz 3 rfl 10
  have z3_10 : x119.cell? ⟨bs, 10, none⟩ = some (.bool false) := HO.out.cell 3 rfl 10 rfl
  obtain ⟨x120, hx120⟩ : ∃ y, x119.setCell ⟨bs, 10, none⟩ (.bool false) = y := ⟨_, rfl⟩
  have hO := HO.out.setCell 3 rfl 10 (.bool false)
  rw [hx120] at hO
  replace HO := Lib.hid (show Own w none0 x120 [blkR bt (.cells #[.string s] 9), blkR br (.cells #[.int .i64 0, .int .i64 0, .int .i64 0, .int .i64 0, .bool false, .bool false, .bool false, .bool false, .int .i64 0, .int .i64 0, .bool false, .slice none 0 0, .string ⟨#[]⟩] 51), blkR ba (.cells #[.int .i64 ((13 + 1 : Nat) : Int)] 3), blkR bs (.cells #[.int .i64 fp, .int .i64 tp, .int .i64 q, .int .i64 0, .bool false, .bool false, .bool false, .bool false, .int .i64 0, .int .i64 0, .bool false, .slice none 0 0, .string ⟨#[]⟩] 51)] from hO)
  clear hO
  go_wp2_with fail
  refine (rget2 14 0 (by have := HQ.out; omega) (by have := HQ.out; omega) A7.out (by have := HP.out; omega) HP.out.2 (HO.out.cell 0 rfl 0 rfl) HO.out 2 rfl).mono ?_
  rintro e x121 ⟨rfl, hO, -⟩
  replace HO := Lib.hid (show Own w none0 x121 [blkR bt (.cells #[.string s] 9), blkR br (.cells #[.int .i64 0, .int .i64 0, .int .i64 0, .int .i64 0, .bool false, .bool false, .bool false, .bool false, .int .i64 0, .int .i64 0, .bool false, .slice none 0 0, .string ⟨#[]⟩] 51), blkR ba (.cells #[.int .i64 ((14 + 2 : Nat) : Int)] 3), blkR bs (.cells #[.int .i64 fp, .int .i64 tp, .int .i64 q, .int .i64 0, .bool false, .bool false, .bool false, .bool false, .int .i64 0, .int .i64 0, .bool false, .slice none 0 0, .string ⟨#[]⟩] 51)] from hO)
  clear hO
  clear y3_4 z3_4 hx116 y3_5 z3_5 hx117 y3_6 z3_6 hx118 y3_7 z3_7 hx119 y3_10 z3_10 hx120
  have HO := Lib.hid (show Own w none0 x121 [blkR bt (.cells #[.string s] 9), blkR br (.cells #[.int .i64 0, .int .i64 0, .int .i64 0, .int .i64 0, .bool false, .bool false, .bool false, .bool false, .int .i64 0, .int .i64 0, .bool false, .slice none 0 0, .string ⟨#[]⟩] 51), blkR ba (.cells #[.int .i64 ((16 : Nat) : Int)] 3), blkR bs (.cells #[.int .i64 fp, .int .i64 tp, .int .i64 q, .int .i64 0, .bool false, .bool false, .bool false, .bool false, .int .i64 0, .int .i64 0, .bool false, .slice none 0 0, .string ⟨#[]⟩] 51)] from HO.out)
  go_wp2_with fail
  refine (rget2 16 0 (by have := HQ.out; omega) (by have := HQ.out; omega) A8.out (by have := HP.out; omega) HP.out.2 (HO.out.cell 0 rfl 0 rfl) HO.out 2 rfl).mono ?_
  rintro e x122 ⟨rfl, hO, -⟩
  replace HO := Lib.hid (show Own w none0 x122 [blkR bt (.cells #[.string s] 9), blkR br (.cells #[.int .i64 0, .int .i64 0, .int .i64 0, .int .i64 0, .bool false, .bool false, .bool false, .bool false, .int .i64 0, .int .i64 0, .bool false, .slice none 0 0, .string ⟨#[]⟩] 51), blkR ba (.cells #[.int .i64 ((16 + 2 : Nat) : Int)] 3), blkR bs (.cells #[.int .i64 fp, .int .i64 tp, .int .i64 q, .int .i64 0, .bool false, .bool false, .bool false, .bool false, .int .i64 0, .int .i64 0, .bool false, .slice none 0 0, .string ⟨#[]⟩] 51)] from hO)
  clear hO
  have HO := Lib.hid (show Own w none0 x122 [blkR bt (.cells #[.string s] 9), blkR br (.cells #[.int .i64 0, .int .i64 0, .int .i64 0, .int .i64 0, .bool false, .bool false, .bool false, .bool false, .int .i64 0, .int .i64 0, .bool false, .slice none 0 0, .string ⟨#[]⟩] 51), blkR ba (.cells #[.int .i64 ((18 : Nat) : Int)] 3), blkR bs (.cells #[.int .i64 fp, .int .i64 tp, .int .i64 q, .int .i64 0, .bool false, .bool false, .bool false, .bool false, .int .i64 0, .int .i64 0, .bool false, .slice none 0 0, .string ⟨#[]⟩] 51)] from HO.out)
  have y3_8 : x122.frozen? ⟨bs, 8, none⟩ = false := HO.out.frz 3 rfl 8
  have z3_8 : x122.cell? ⟨bs, 8, none⟩ = some (.int .i64 0) := HO.out.cell 3 rfl 8 rfl
  obtain ⟨x123, hx123⟩ : ∃ y, x122.setCell ⟨bs, 8, none⟩ (.int .i64 0) = y := ⟨_, rfl⟩
  have hO := HO.out.setCell 3 rfl 8 (.int .i64 0)
  rw [hx123] at hO
  replace HO := Lib.hid (show Own w none0 x123 [blkR bt (.cells #[.string s] 9), blkR br (.cells #[.int .i64 0, .int .i64 0, .int .i64 0, .int .i64 0, .bool false, .bool false, .bool false, .bool false, .int .i64 0, .int .i64 0, .bool false, .slice none 0 0, .string ⟨#[]⟩] 51), blkR ba (.cells #[.int .i64 ((16 + 2 : Nat) : Int)] 3), blkR bs (.cells #[.int .i64 fp, .int .i64 tp, .int .i64 q, .int .i64 0, .bool false, .bool false, .bool false, .bool false, .int .i64 0, .int .i64 0, .bool false, .slice none 0 0, .string ⟨#[]⟩] 51)] from hO)
  clear hO
  have y3_9 : x123.frozen? ⟨bs, 9, none⟩ = false := HO.out.frz 3 rfl 9
  have z3_9 : x123.cell? ⟨bs, 9, none⟩ = some (.int .i64 0) := HO.out.cell 3 rfl 9 rfl
  obtain ⟨x124, hx124⟩ : ∃ y, x123.setCell ⟨bs, 9, none⟩ (.int .i64 0) = y := ⟨_, rfl⟩
  have hO := HO.out.setCell 3 rfl 9 (.int .i64 0)
  rw [hx124] at hO
  replace HO := Lib.hid (show Own w none0 x124 [blkR bt (.cells #[.string s] 9), blkR br (.cells #[.int .i64 0, .int .i64 0, .int .i64 0, .int .i64 0, .bool false, .bool false, .bool false, .bool false, .int .i64 0, .int .i64 0, .bool false, .slice none 0 0, .string ⟨#[]⟩] 51), blkR ba (.cells #[.int .i64 ((16 + 2 : Nat) : Int)] 3), blkR bs (.cells #[.int .i64 fp, .int .i64 tp, .int .i64 q, .int .i64 0, .bool false, .bool false, .bool false, .bool false, .int .i64 0, .int .i64 0, .bool false, .slice none 0 0, .string ⟨#[]⟩] 51)] from hO)
  clear hO
  go_wp2_with fail
  refine (rget2 18 sum (by have := HQ.out; omega) (by have := HQ.out; omega) A9.out (by have := HP.out; omega) HP.out.2 (HO.out.cell 0 rfl 0 rfl) HO.out 2 rfl).mono ?_
  rintro e x125 ⟨rfl, hO, -⟩
  replace HO := Lib.hid (show Own w none0 x125 [blkR bt (.cells #[.string s] 9), blkR br (.cells #[.int .i64 0, .int .i64 0, .int .i64 0, .int .i64 0, .bool false, .bool false, .bool false, .bool false, .int .i64 0, .int .i64 0, .bool false, .slice none 0 0, .string ⟨#[]⟩] 51), blkR ba (.cells #[.int .i64 ((18 + 2 : Nat) : Int)] 3), blkR bs (.cells #[.int .i64 fp, .int .i64 tp, .int .i64 q, .int .i64 0, .bool false, .bool false, .bool false, .bool false, .int .i64 0, .int .i64 0, .bool false, .slice none 0 0, .string ⟨#[]⟩] 51)] from hO)
  clear hO
  clear y3_8 z3_8 hx123 y3_9 z3_9 hx124
  have HO := Lib.hid (show Own w none0 x125 [blkR bt (.cells #[.string s] 9), blkR br (.cells #[.int .i64 0, .int .i64 0, .int .i64 0, .int .i64 0, .bool false, .bool false, .bool false, .bool false, .int .i64 0, .int .i64 0, .bool false, .slice none 0 0, .string ⟨#[]⟩] 51), blkR ba (.cells #[.int .i64 ((20 : Nat) : Int)] 3), blkR bs (.cells #[.int .i64 fp, .int .i64 tp, .int .i64 q, .int .i64 0, .bool false, .bool false, .bool false, .bool false, .int .i64 0, .int .i64 0, .bool false, .slice none 0 0, .string ⟨#[]⟩] 51)] from HO.out)
  replace HO := Lib.hid (show Own w none0 x125 [blkR bt (.cells #[.string s] 9), blkR br (.cells #[.int .i64 0, .int .i64 0, .int .i64 0, .int .i64 0, .bool false, .bool false, .bool false, .bool false, .int .i64 0, .int .i64 0, .bool false, .slice none 0 0, .string ⟨#[]⟩] 51), blkR ba (.cells #[.int .i64 20] 3), blkR bs (.cells #[.int .i64 fp, .int .i64 tp, .int .i64 q, .int .i64 0, .bool false, .bool false, .bool false, .bool false, .int .i64 0, .int .i64 0, .bool false, .slice none 0 0, .string ⟨#[]⟩] 51)] from HO.out)
  have z2_0 : x125.cell? ⟨ba, 0, none⟩ = some (.int .i64 20) := HO.out.cell 2 rfl 0 rfl
  have z0_0 : x125.cell? ⟨bt, 0, none⟩ = some (.string s) := HO.out.cell 0 rfl 0 rfl
  go_wp2
  go_loopw [68] (fun iv wr => iv = .int .i64 0 ∧ Own w none0 wr [blkR bt (.cells #[.string s] 9), blkR br (.cells #[.int .i64 0, .int .i64 0, .int .i64 0, .int .i64 0, .bool false, .bool false, .bool false, .bool false, .int .i64 0, .int .i64 0, .bool false, .slice none 0 0, .string ⟨#[]⟩] 51), blkR ba (.cells #[.int .i64 20] 3), blkR bs (.cells #[.int .i64 fp, .int .i64 tp, .int .i64 q, .int .i64 0, .bool false, .bool false, .bool false, .bool false, .int .i64 0, .int .i64 0, .bool false, .slice none 0 0, .string ⟨#[]⟩] 51)]) (fun iv _ => 0)
  case atStart => exact ⟨rfl, HO.out⟩
  case round =>
    obtain ⟨rfl, hO⟩ := hrel
    replace HO := Lib.hid hO
    clear hO
    clear z2_0 z0_0
    have z2_0 : wr.cell? ⟨ba, 0, none⟩ = some (.int .i64 20) := HO.out.cell 2 rfl 0 rfl
    have z0_0 : wr.cell? ⟨bt, 0, none⟩ = some (.string s) := HO.out.cell 0 rfl 0 rfl
    have y3_12 : wr.frozen? ⟨bs, 12, none⟩ = false := HO.out.frz 3 rfl 12
    have z3_12 : wr.cell? ⟨bs, 12, none⟩ = some (.string ⟨#[]⟩) := HO.out.cell 3 rfl 12 rfl
    obtain ⟨x126, hx126⟩ : ∃ y, wr.setCell ⟨bs, 12, none⟩ (.string d) = y := ⟨_, rfl⟩
    have hO := HO.out.setCell 3 rfl 12 (.string d)
    rw [hx126] at hO
    replace HO := Lib.hid (show Own w none0 x126 [blkR bt (.cells #[.string s] 9), blkR br (.cells #[.int .i64 0, .int .i64 0, .int .i64 0, .int .i64 0, .bool false, .bool false, .bool false, .bool false, .int .i64 0, .int .i64 0, .bool false, .slice none 0 0, .string ⟨#[]⟩] 51), blkR ba (.cells #[.int .i64 20] 3), blkR bs (.cells #[.int .i64 fp, .int .i64 tp, .int .i64 q, .int .i64 0, .bool false, .bool false, .bool false, .bool false, .int .i64 0, .int .i64 0, .bool false, .slice none 0 0, .string d] 51)] from hO)
    clear hO
    have z3_0 : x126.cell? ⟨bs, 0, none⟩ = some (.int .i64 fp) := HO.out.cell 3 rfl 0 rfl
    have z3_1 : x126.cell? ⟨bs, 1, none⟩ = some (.int .i64 tp) := HO.out.cell 3 rfl 1 rfl
    have z3_2 : x126.cell? ⟨bs, 2, none⟩ = some (.int .i64 q) := HO.out.cell 3 rfl 2 rfl
    have z3_3 : x126.cell? ⟨bs, 3, none⟩ = some (.int .i64 0) := HO.out.cell 3 rfl 3 rfl
    have z3_4 : x126.cell? ⟨bs, 4, none⟩ = some (.bool false) := HO.out.cell 3 rfl 4 rfl
    have z3_5 : x126.cell? ⟨bs, 5, none⟩ = some (.bool false) := HO.out.cell 3 rfl 5 rfl
    have z3_6 : x126.cell? ⟨bs, 6, none⟩ = some (.bool false) := HO.out.cell 3 rfl 6 rfl
    have z3_7 : x126.cell? ⟨bs, 7, none⟩ = some (.bool false) := HO.out.cell 3 rfl 7 rfl
    have z3_8 : x126.cell? ⟨bs, 8, none⟩ = some (.int .i64 0) := HO.out.cell 3 rfl 8 rfl
    have z3_9 : x126.cell? ⟨bs, 9, none⟩ = some (.int .i64 0) := HO.out.cell 3 rfl 9 rfl
    have z3_10 : x126.cell? ⟨bs, 10, none⟩ = some (.bool false) := HO.out.cell 3 rfl 10 rfl
    have z3_11 : x126.cell? ⟨bs, 11, none⟩ = some (.slice none 0 0) := HO.out.cell 3 rfl 11 rfl
    have z3_12t : x126.cell? ⟨bs, 12, none⟩ = some (.string d) := HO.out.cell 3 rfl 12 rfl
    have k1_0_127 : x126.cell? ⟨br, 0, none⟩ = some (.int .i64 0) := HO.out.cell 1 rfl 0 rfl
    have lk1_0_127 : x126.frozen? ⟨br, 0, none⟩ = false := HO.out.frz 1 rfl 0
    have k1_1_128 : x126.cell? ⟨br, 1, none⟩ = some (.int .i64 0) := HO.out.cell 1 rfl 1 rfl
    have lk1_1_128 : x126.frozen? ⟨br, 1, none⟩ = false := HO.out.frz 1 rfl 1
    have k1_2_129 : x126.cell? ⟨br, 2, none⟩ = some (.int .i64 0) := HO.out.cell 1 rfl 2 rfl
    have lk1_2_129 : x126.frozen? ⟨br, 2, none⟩ = false := HO.out.frz 1 rfl 2
    have k1_3_130 : x126.cell? ⟨br, 3, none⟩ = some (.int .i64 0) := HO.out.cell 1 rfl 3 rfl
    have lk1_3_130 : x126.frozen? ⟨br, 3, none⟩ = false := HO.out.frz 1 rfl 3
    have k1_4_131 : x126.cell? ⟨br, 4, none⟩ = some (.bool false) := HO.out.cell 1 rfl 4 rfl
    have lk1_4_131 : x126.frozen? ⟨br, 4, none⟩ = false := HO.out.frz 1 rfl 4
    have k1_5_132 : x126.cell? ⟨br, 5, none⟩ = some (.bool false) := HO.out.cell 1 rfl 5 rfl
    have lk1_5_132 : x126.frozen? ⟨br, 5, none⟩ = false := HO.out.frz 1 rfl 5
    have k1_6_133 : x126.cell? ⟨br, 6, none⟩ = some (.bool false) := HO.out.cell 1 rfl 6 rfl
    have lk1_6_133 : x126.frozen? ⟨br, 6, none⟩ = false := HO.out.frz 1 rfl 6
    have k1_7_134 : x126.cell? ⟨br, 7, none⟩ = some (.bool false) := HO.out.cell 1 rfl 7 rfl
    have lk1_7_134 : x126.frozen? ⟨br, 7, none⟩ = false := HO.out.frz 1 rfl 7
    have k1_8_135 : x126.cell? ⟨br, 8, none⟩ = some (.int .i64 0) := HO.out.cell 1 rfl 8 rfl
    have lk1_8_135 : x126.frozen? ⟨br, 8, none⟩ = false := HO.out.frz 1 rfl 8
    have k1_9_136 : x126.cell? ⟨br, 9, none⟩ = some (.int .i64 0) := HO.out.cell 1 rfl 9 rfl
    have lk1_9_136 : x126.frozen? ⟨br, 9, none⟩ = false := HO.out.frz 1 rfl 9
    have k1_10_137 : x126.cell? ⟨br, 10, none⟩ = some (.bool false) := HO.out.cell 1 rfl 10 rfl
    have lk1_10_137 : x126.frozen? ⟨br, 10, none⟩ = false := HO.out.frz 1 rfl 10
    have k1_11_138 : x126.cell? ⟨br, 11, none⟩ = some (.slice none 0 0) := HO.out.cell 1 rfl 11 rfl
    have lk1_11_138 : x126.frozen? ⟨br, 11, none⟩ = false := HO.out.frz 1 rfl 11
    have k1_12_139 : x126.cell? ⟨br, 12, none⟩ = some (.string ⟨#[]⟩) := HO.out.cell 1 rfl 12 rfl
    have lk1_12_139 : x126.frozen? ⟨br, 12, none⟩ = false := HO.out.frz 1 rfl 12
    obtain ⟨x140, hx140⟩ : ∃ y, x126.setCell ⟨br, 0, none⟩ (.int .i64 fp) = y := ⟨_, rfl⟩
    have hO := HO.out.setCell 1 rfl 0 (.int .i64 fp)
    rw [hx140] at hO
    replace HO := Lib.hid (show Own w none0 x140 [blkR bt (.cells #[.string s] 9), blkR br (.cells #[.int .i64 fp, .int .i64 0, .int .i64 0, .int .i64 0, .bool false, .bool false, .bool false, .bool false, .int .i64 0, .int .i64 0, .bool false, .slice none 0 0, .string ⟨#[]⟩] 51), blkR ba (.cells #[.int .i64 20] 3), blkR bs (.cells #[.int .i64 fp, .int .i64 tp, .int .i64 q, .int .i64 0, .bool false, .bool false, .bool false, .bool false, .int .i64 0, .int .i64 0, .bool false, .slice none 0 0, .string d] 51)] from hO)
    clear hO
    have k1_1_141 : x140.cell? ⟨br, 1, none⟩ = some (.int .i64 0) := HO.out.cell 1 rfl 1 rfl
    have lk1_1_141 : x140.frozen? ⟨br, 1, none⟩ = false := HO.out.frz 1 rfl 1
    have k1_2_142 : x140.cell? ⟨br, 2, none⟩ = some (.int .i64 0) := HO.out.cell 1 rfl 2 rfl
    have lk1_2_142 : x140.frozen? ⟨br, 2, none⟩ = false := HO.out.frz 1 rfl 2
    have k1_3_143 : x140.cell? ⟨br, 3, none⟩ = some (.int .i64 0) := HO.out.cell 1 rfl 3 rfl
    have lk1_3_143 : x140.frozen? ⟨br, 3, none⟩ = false := HO.out.frz 1 rfl 3
    have k1_4_144 : x140.cell? ⟨br, 4, none⟩ = some (.bool false) := HO.out.cell 1 rfl 4 rfl
    have lk1_4_144 : x140.frozen? ⟨br, 4, none⟩ = false := HO.out.frz 1 rfl 4
    have k1_5_145 : x140.cell? ⟨br, 5, none⟩ = some (.bool false) := HO.out.cell 1 rfl 5 rfl
    have lk1_5_145 : x140.frozen? ⟨br, 5, none⟩ = false := HO.out.frz 1 rfl 5
    have k1_6_146 : x140.cell? ⟨br, 6, none⟩ = some (.bool false) := HO.out.cell 1 rfl 6 rfl
    have lk1_6_146 : x140.frozen? ⟨br, 6, none⟩ = false := HO.out.frz 1 rfl 6
    have k1_7_147 : x140.cell? ⟨br, 7, none⟩ = some (.bool false) := HO.out.cell 1 rfl 7 rfl
    have lk1_7_147 : x140.frozen? ⟨br, 7, none⟩ = false := HO.out.frz 1 rfl 7
    have k1_8_148 : x140.cell? ⟨br, 8, none⟩ = some (.int .i64 0) := HO.out.cell 1 rfl 8 rfl
    have lk1_8_148 : x140.frozen? ⟨br, 8, none⟩ = false := HO.out.frz 1 rfl 8
    have k1_9_149 : x140.cell? ⟨br, 9, none⟩ = some (.int .i64 0) := HO.out.cell 1 rfl 9 rfl
    have lk1_9_149 : x140.frozen? ⟨br, 9, none⟩ = false := HO.out.frz 1 rfl 9
    have k1_10_150 : x140.cell? ⟨br, 10, none⟩ = some (.bool false) := HO.out.cell 1 rfl 10 rfl
    have lk1_10_150 : x140.frozen? ⟨br, 10, none⟩ = false := HO.out.frz 1 rfl 10
    have k1_11_151 : x140.cell? ⟨br, 11, none⟩ = some (.slice none 0 0) := HO.out.cell 1 rfl 11 rfl
    have lk1_11_151 : x140.frozen? ⟨br, 11, none⟩ = false := HO.out.frz 1 rfl 11
    have k1_12_152 : x140.cell? ⟨br, 12, none⟩ = some (.string ⟨#[]⟩) := HO.out.cell 1 rfl 12 rfl
    have lk1_12_152 : x140.frozen? ⟨br, 12, none⟩ = false := HO.out.frz 1 rfl 12
    obtain ⟨x153, hx153⟩ : ∃ y, x140.setCell ⟨br, 1, none⟩ (.int .i64 tp) = y := ⟨_, rfl⟩
    have hO := HO.out.setCell 1 rfl 1 (.int .i64 tp)
    rw [hx153] at hO
    replace HO := Lib.hid (show Own w none0 x153 [blkR bt (.cells #[.string s] 9), blkR br (.cells #[.int .i64 fp, .int .i64 tp, .int .i64 0, .int .i64 0, .bool false, .bool false, .bool false, .bool false, .int .i64 0, .int .i64 0, .bool false, .slice none 0 0, .string ⟨#[]⟩] 51), blkR ba (.cells #[.int .i64 20] 3), blkR bs (.cells #[.int .i64 fp, .int .i64 tp, .int .i64 q, .int .i64 0, .bool false, .bool false, .bool false, .bool false, .int .i64 0, .int .i64 0, .bool false, .slice none 0 0, .string d] 51)] from hO)
    clear hO
    have k1_2_154 : x153.cell? ⟨br, 2, none⟩ = some (.int .i64 0) := HO.out.cell 1 rfl 2 rfl
    have lk1_2_154 : x153.frozen? ⟨br, 2, none⟩ = false := HO.out.frz 1 rfl 2
    have k1_3_155 : x153.cell? ⟨br, 3, none⟩ = some (.int .i64 0) := HO.out.cell 1 rfl 3 rfl
    have lk1_3_155 : x153.frozen? ⟨br, 3, none⟩ = false := HO.out.frz 1 rfl 3
    have k1_4_156 : x153.cell? ⟨br, 4, none⟩ = some (.bool false) := HO.out.cell 1 rfl 4 rfl
    have lk1_4_156 : x153.frozen? ⟨br, 4, none⟩ = false := HO.out.frz 1 rfl 4
    have k1_5_157 : x153.cell? ⟨br, 5, none⟩ = some (.bool false) := HO.out.cell 1 rfl 5 rfl
    have lk1_5_157 : x153.frozen? ⟨br, 5, none⟩ = false := HO.out.frz 1 rfl 5
    have k1_6_158 : x153.cell? ⟨br, 6, none⟩ = some (.bool false) := HO.out.cell 1 rfl 6 rfl
    have lk1_6_158 : x153.frozen? ⟨br, 6, none⟩ = false := HO.out.frz 1 rfl 6
    have k1_7_159 : x153.cell? ⟨br, 7, none⟩ = some (.bool false) := HO.out.cell 1 rfl 7 rfl
    have lk1_7_159 : x153.frozen? ⟨br, 7, none⟩ = false := HO.out.frz 1 rfl 7
    have k1_8_160 : x153.cell? ⟨br, 8, none⟩ = some (.int .i64 0) := HO.out.cell 1 rfl 8 rfl
    have lk1_8_160 : x153.frozen? ⟨br, 8, none⟩ = false := HO.out.frz 1 rfl 8
    have k1_9_161 : x153.cell? ⟨br, 9, none⟩ = some (.int .i64 0) := HO.out.cell 1 rfl 9 rfl
    have lk1_9_161 : x153.frozen? ⟨br, 9, none⟩ = false := HO.out.frz 1 rfl 9
    have k1_10_162 : x153.cell? ⟨br, 10, none⟩ = some (.bool false) := HO.out.cell 1 rfl 10 rfl
    have lk1_10_162 : x153.frozen? ⟨br, 10, none⟩ = false := HO.out.frz 1 rfl 10
    have k1_11_163 : x153.cell? ⟨br, 11, none⟩ = some (.slice none 0 0) := HO.out.cell 1 rfl 11 rfl
    have lk1_11_163 : x153.frozen? ⟨br, 11, none⟩ = false := HO.out.frz 1 rfl 11
    have k1_12_164 : x153.cell? ⟨br, 12, none⟩ = some (.string ⟨#[]⟩) := HO.out.cell 1 rfl 12 rfl
    have lk1_12_164 : x153.frozen? ⟨br, 12, none⟩ = false := HO.out.frz 1 rfl 12
    obtain ⟨x165, hx165⟩ : ∃ y, x153.setCell ⟨br, 2, none⟩ (.int .i64 q) = y := ⟨_, rfl⟩
    have hO := HO.out.setCell 1 rfl 2 (.int .i64 q)
    rw [hx165] at hO
    replace HO := Lib.hid (show Own w none0 x165 [blkR bt (.cells #[.string s] 9), blkR br (.cells #[.int .i64 fp, .int .i64 tp, .int .i64 q, .int .i64 0, .bool false, .bool false, .bool false, .bool false, .int .i64 0, .int .i64 0, .bool false, .slice none 0 0, .string ⟨#[]⟩] 51), blkR ba (.cells #[.int .i64 20] 3), blkR bs (.cells #[.int .i64 fp, .int .i64 tp, .int .i64 q, .int .i64 0, .bool false, .bool false, .bool false, .bool false, .int .i64 0, .int .i64 0, .bool false, .slice none 0 0, .string d] 51)] from hO)
    clear hO
    have k1_3_166 : x165.cell? ⟨br, 3, none⟩ = some (.int .i64 0) := HO.out.cell 1 rfl 3 rfl
    have lk1_3_166 : x165.frozen? ⟨br, 3, none⟩ = false := HO.out.frz 1 rfl 3
    have k1_4_167 : x165.cell? ⟨br, 4, none⟩ = some (.bool false) := HO.out.cell 1 rfl 4 rfl
    have lk1_4_167 : x165.frozen? ⟨br, 4, none⟩ = false := HO.out.frz 1 rfl 4
    have k1_5_168 : x165.cell? ⟨br, 5, none⟩ = some (.bool false) := HO.out.cell 1 rfl 5 rfl
    have lk1_5_168 : x165.frozen? ⟨br, 5, none⟩ = false := HO.out.frz 1 rfl 5
    have k1_6_169 : x165.cell? ⟨br, 6, none⟩ = some (.bool false) := HO.out.cell 1 rfl 6 rfl
    have lk1_6_169 : x165.frozen? ⟨br, 6, none⟩ = false := HO.out.frz 1 rfl 6
    have k1_7_170 : x165.cell? ⟨br, 7, none⟩ = some (.bool false) := HO.out.cell 1 rfl 7 rfl
    have lk1_7_170 : x165.frozen? ⟨br, 7, none⟩ = false := HO.out.frz 1 rfl 7
    have k1_8_171 : x165.cell? ⟨br, 8, none⟩ = some (.int .i64 0) := HO.out.cell 1 rfl 8 rfl
    have lk1_8_171 : x165.frozen? ⟨br, 8, none⟩ = false := HO.out.frz 1 rfl 8
    have k1_9_172 : x165.cell? ⟨br, 9, none⟩ = some (.int .i64 0) := HO.out.cell 1 rfl 9 rfl
    have lk1_9_172 : x165.frozen? ⟨br, 9, none⟩ = false := HO.out.frz 1 rfl 9
    have k1_10_173 : x165.cell? ⟨br, 10, none⟩ = some (.bool false) := HO.out.cell 1 rfl 10 rfl
    have lk1_10_173 : x165.frozen? ⟨br, 10, none⟩ = false := HO.out.frz 1 rfl 10
    have k1_11_174 : x165.cell? ⟨br, 11, none⟩ = some (.slice none 0 0) := HO.out.cell 1 rfl 11 rfl
    have lk1_11_174 : x165.frozen? ⟨br, 11, none⟩ = false := HO.out.frz 1 rfl 11
    have k1_12_175 : x165.cell? ⟨br, 12, none⟩ = some (.string ⟨#[]⟩) := HO.out.cell 1 rfl 12 rfl
    have lk1_12_175 : x165.frozen? ⟨br, 12, none⟩ = false := HO.out.frz 1 rfl 12
    obtain ⟨x176, hx176⟩ : ∃ y, x165.setCell ⟨br, 3, none⟩ (.int .i64 0) = y := ⟨_, rfl⟩
    have hO := HO.out.setCell 1 rfl 3 (.int .i64 0)
    rw [hx176] at hO
    replace HO := Lib.hid (show Own w none0 x176 [blkR bt (.cells #[.string s] 9), blkR br (.cells #[.int .i64 fp, .int .i64 tp, .int .i64 q, .int .i64 0, .bool false, .bool false, .bool false, .bool false, .int .i64 0, .int .i64 0, .bool false, .slice none 0 0, .string ⟨#[]⟩] 51), blkR ba (.cells #[.int .i64 20] 3), blkR bs (.cells #[.int .i64 fp, .int .i64 tp, .int .i64 q, .int .i64 0, .bool false, .bool false, .bool false, .bool false, .int .i64 0, .int .i64 0, .bool false, .slice none 0 0, .string d] 51)] from hO)
    clear hO
    have k1_4_177 : x176.cell? ⟨br, 4, none⟩ = some (.bool false) := HO.out.cell 1 rfl 4 rfl
    have lk1_4_177 : x176.frozen? ⟨br, 4, none⟩ = false := HO.out.frz 1 rfl 4
    have k1_5_178 : x176.cell? ⟨br, 5, none⟩ = some (.bool false) := HO.out.cell 1 rfl 5 rfl
    have lk1_5_178 : x176.frozen? ⟨br, 5, none⟩ = false := HO.out.frz 1 rfl 5
    have k1_6_179 : x176.cell? ⟨br, 6, none⟩ = some (.bool false) := HO.out.cell 1 rfl 6 rfl
    have lk1_6_179 : x176.frozen? ⟨br, 6, none⟩ = false := HO.out.frz 1 rfl 6
    have k1_7_180 : x176.cell? ⟨br, 7, none⟩ = some (.bool false) := HO.out.cell 1 rfl 7 rfl
    have lk1_7_180 : x176.frozen? ⟨br, 7, none⟩ = false := HO.out.frz 1 rfl 7
    have k1_8_181 : x176.cell? ⟨br, 8, none⟩ = some (.int .i64 0) := HO.out.cell 1 rfl 8 rfl
    have lk1_8_181 : x176.frozen? ⟨br, 8, none⟩ = false := HO.out.frz 1 rfl 8
    have k1_9_182 : x176.cell? ⟨br, 9, none⟩ = some (.int .i64 0) := HO.out.cell 1 rfl 9 rfl
    have lk1_9_182 : x176.frozen? ⟨br, 9, none⟩ = false := HO.out.frz 1 rfl 9
    have k1_10_183 : x176.cell? ⟨br, 10, none⟩ = some (.bool false) := HO.out.cell 1 rfl 10 rfl
    have lk1_10_183 : x176.frozen? ⟨br, 10, none⟩ = false := HO.out.frz 1 rfl 10
    have k1_11_184 : x176.cell? ⟨br, 11, none⟩ = some (.slice none 0 0) := HO.out.cell 1 rfl 11 rfl
    have lk1_11_184 : x176.frozen? ⟨br, 11, none⟩ = false := HO.out.frz 1 rfl 11
    have k1_12_185 : x176.cell? ⟨br, 12, none⟩ = some (.string ⟨#[]⟩) := HO.out.cell 1 rfl 12 rfl
    have lk1_12_185 : x176.frozen? ⟨br, 12, none⟩ = false := HO.out.frz 1 rfl 12
    obtain ⟨x186, hx186⟩ : ∃ y, x176.setCell ⟨br, 4, none⟩ (.bool false) = y := ⟨_, rfl⟩
    have hO := HO.out.setCell 1 rfl 4 (.bool false)
    rw [hx186] at hO
    replace HO := Lib.hid (show Own w none0 x186 [blkR bt (.cells #[.string s] 9), blkR br (.cells #[.int .i64 fp, .int .i64 tp, .int .i64 q, .int .i64 0, .bool false, .bool false, .bool false, .bool false, .int .i64 0, .int .i64 0, .bool false, .slice none 0 0, .string ⟨#[]⟩] 51), blkR ba (.cells #[.int .i64 20] 3), blkR bs (.cells #[.int .i64 fp, .int .i64 tp, .int .i64 q, .int .i64 0, .bool false, .bool false, .bool false, .bool false, .int .i64 0, .int .i64 0, .bool false, .slice none 0 0, .string d] 51)] from hO)
    clear hO
    have k1_5_187 : x186.cell? ⟨br, 5, none⟩ = some (.bool false) := HO.out.cell 1 rfl 5 rfl
    have lk1_5_187 : x186.frozen? ⟨br, 5, none⟩ = false := HO.out.frz 1 rfl 5
    have k1_6_188 : x186.cell? ⟨br, 6, none⟩ = some (.bool false) := HO.out.cell 1 rfl 6 rfl
    have lk1_6_188 : x186.frozen? ⟨br, 6, none⟩ = false := HO.out.frz 1 rfl 6
    have k1_7_189 : x186.cell? ⟨br, 7, none⟩ = some (.bool false) := HO.out.cell 1 rfl 7 rfl
    have lk1_7_189 : x186.frozen? ⟨br, 7, none⟩ = false := HO.out.frz 1 rfl 7
    have k1_8_190 : x186.cell? ⟨br, 8, none⟩ = some (.int .i64 0) := HO.out.cell 1 rfl 8 rfl
    have lk1_8_190 : x186.frozen? ⟨br, 8, none⟩ = false := HO.out.frz 1 rfl 8
    have k1_9_191 : x186.cell? ⟨br, 9, none⟩ = some (.int .i64 0) := HO.out.cell 1 rfl 9 rfl
    have lk1_9_191 : x186.frozen? ⟨br, 9, none⟩ = false := HO.out.frz 1 rfl 9
    have k1_10_192 : x186.cell? ⟨br, 10, none⟩ = some (.bool false) := HO.out.cell 1 rfl 10 rfl
    have lk1_10_192 : x186.frozen? ⟨br, 10, none⟩ = false := HO.out.frz 1 rfl 10
    have k1_11_193 : x186.cell? ⟨br, 11, none⟩ = some (.slice none 0 0) := HO.out.cell 1 rfl 11 rfl
    have lk1_11_193 : x186.frozen? ⟨br, 11, none⟩ = false := HO.out.frz 1 rfl 11
    have k1_12_194 : x186.cell? ⟨br, 12, none⟩ = some (.string ⟨#[]⟩) := HO.out.cell 1 rfl 12 rfl
    have lk1_12_194 : x186.frozen? ⟨br, 12, none⟩ = false := HO.out.frz 1 rfl 12
    obtain ⟨x195, hx195⟩ : ∃ y, x186.setCell ⟨br, 5, none⟩ (.bool false) = y := ⟨_, rfl⟩
    have hO := HO.out.setCell 1 rfl 5 (.bool false)
    rw [hx195] at hO
    replace HO := Lib.hid (show Own w none0 x195 [blkR bt (.cells #[.string s] 9), blkR br (.cells #[.int .i64 fp, .int .i64 tp, .int .i64 q, .int .i64 0, .bool false, .bool false, .bool false, .bool false, .int .i64 0, .int .i64 0, .bool false, .slice none 0 0, .string ⟨#[]⟩] 51), blkR ba (.cells #[.int .i64 20] 3), blkR bs (.cells #[.int .i64 fp, .int .i64 tp, .int .i64 q, .int .i64 0, .bool false, .bool false, .bool false, .bool false, .int .i64 0, .int .i64 0, .bool false, .slice none 0 0, .string d] 51)] from hO)
    clear hO
    have k1_6_196 : x195.cell? ⟨br, 6, none⟩ = some (.bool false) := HO.out.cell 1 rfl 6 rfl
    have lk1_6_196 : x195.frozen? ⟨br, 6, none⟩ = false := HO.out.frz 1 rfl 6
    have k1_7_197 : x195.cell? ⟨br, 7, none⟩ = some (.bool false) := HO.out.cell 1 rfl 7 rfl
    have lk1_7_197 : x195.frozen? ⟨br, 7, none⟩ = false := HO.out.frz 1 rfl 7
    have k1_8_198 : x195.cell? ⟨br, 8, none⟩ = some (.int .i64 0) := HO.out.cell 1 rfl 8 rfl
    have lk1_8_198 : x195.frozen? ⟨br, 8, none⟩ = false := HO.out.frz 1 rfl 8
    have k1_9_199 : x195.cell? ⟨br, 9, none⟩ = some (.int .i64 0) := HO.out.cell 1 rfl 9 rfl
    have lk1_9_199 : x195.frozen? ⟨br, 9, none⟩ = false := HO.out.frz 1 rfl 9
    have k1_10_200 : x195.cell? ⟨br, 10, none⟩ = some (.bool false) := HO.out.cell 1 rfl 10 rfl
    have lk1_10_200 : x195.frozen? ⟨br, 10, none⟩ = false := HO.out.frz 1 rfl 10
    have k1_11_201 : x195.cell? ⟨br, 11, none⟩ = some (.slice none 0 0) := HO.out.cell 1 rfl 11 rfl
    have lk1_11_201 : x195.frozen? ⟨br, 11, none⟩ = false := HO.out.frz 1 rfl 11
    have k1_12_202 : x195.cell? ⟨br, 12, none⟩ = some (.string ⟨#[]⟩) := HO.out.cell 1 rfl 12 rfl
    have lk1_12_202 : x195.frozen? ⟨br, 12, none⟩ = false := HO.out.frz 1 rfl 12
    obtain ⟨x203, hx203⟩ : ∃ y, x195.setCell ⟨br, 6, none⟩ (.bool false) = y := ⟨_, rfl⟩
    have hO := HO.out.setCell 1 rfl 6 (.bool false)
    rw [hx203] at hO
    replace HO := Lib.hid (show Own w none0 x203 [blkR bt (.cells #[.string s] 9), blkR br (.cells #[.int .i64 fp, .int .i64 tp, .int .i64 q, .int .i64 0, .bool false, .bool false, .bool false, .bool false, .int .i64 0, .int .i64 0, .bool false, .slice none 0 0, .string ⟨#[]⟩] 51), blkR ba (.cells #[.int .i64 20] 3), blkR bs (.cells #[.int .i64 fp, .int .i64 tp, .int .i64 q, .int .i64 0, .bool false, .bool false, .bool false, .bool false, .int .i64 0, .int .i64 0, .bool false, .slice none 0 0, .string d] 51)] from hO)
    clear hO
    have k1_7_204 : x203.cell? ⟨br, 7, none⟩ = some (.bool false) := HO.out.cell 1 rfl 7 rfl
    have lk1_7_204 : x203.frozen? ⟨br, 7, none⟩ = false := HO.out.frz 1 rfl 7
    have k1_8_205 : x203.cell? ⟨br, 8, none⟩ = some (.int .i64 0) := HO.out.cell 1 rfl 8 rfl
    have lk1_8_205 : x203.frozen? ⟨br, 8, none⟩ = false := HO.out.frz 1 rfl 8
    have k1_9_206 : x203.cell? ⟨br, 9, none⟩ = some (.int .i64 0) := HO.out.cell 1 rfl 9 rfl
    have lk1_9_206 : x203.frozen? ⟨br, 9, none⟩ = false := HO.out.frz 1 rfl 9
    have k1_10_207 : x203.cell? ⟨br, 10, none⟩ = some (.bool false) := HO.out.cell 1 rfl 10 rfl
    have lk1_10_207 : x203.frozen? ⟨br, 10, none⟩ = false := HO.out.frz 1 rfl 10
    have k1_11_208 : x203.cell? ⟨br, 11, none⟩ = some (.slice none 0 0) := HO.out.cell 1 rfl 11 rfl
    have lk1_11_208 : x203.frozen? ⟨br, 11, none⟩ = false := HO.out.frz 1 rfl 11
    have k1_12_209 : x203.cell? ⟨br, 12, none⟩ = some (.string ⟨#[]⟩) := HO.out.cell 1 rfl 12 rfl
    have lk1_12_209 : x203.frozen? ⟨br, 12, none⟩ = false := HO.out.frz 1 rfl 12
    obtain ⟨x210, hx210⟩ : ∃ y, x203.setCell ⟨br, 7, none⟩ (.bool false) = y := ⟨_, rfl⟩
    have hO := HO.out.setCell 1 rfl 7 (.bool false)
    rw [hx210] at hO
    replace HO := Lib.hid (show Own w none0 x210 [blkR bt (.cells #[.string s] 9), blkR br (.cells #[.int .i64 fp, .int .i64 tp, .int .i64 q, .int .i64 0, .bool false, .bool false, .bool false, .bool false, .int .i64 0, .int .i64 0, .bool false, .slice none 0 0, .string ⟨#[]⟩] 51), blkR ba (.cells #[.int .i64 20] 3), blkR bs (.cells #[.int .i64 fp, .int .i64 tp, .int .i64 q, .int .i64 0, .bool false, .bool false, .bool false, .bool false, .int .i64 0, .int .i64 0, .bool false, .slice none 0 0, .string d] 51)] from hO)
    clear hO
    have k1_8_211 : x210.cell? ⟨br, 8, none⟩ = some (.int .i64 0) := HO.out.cell 1 rfl 8 rfl
    have lk1_8_211 : x210.frozen? ⟨br, 8, none⟩ = false := HO.out.frz 1 rfl 8
    have k1_9_212 : x210.cell? ⟨br, 9, none⟩ = some (.int .i64 0) := HO.out.cell 1 rfl 9 rfl
    have lk1_9_212 : x210.frozen? ⟨br, 9, none⟩ = false := HO.out.frz 1 rfl 9
    have k1_10_213 : x210.cell? ⟨br, 10, none⟩ = some (.bool false) := HO.out.cell 1 rfl 10 rfl
    have lk1_10_213 : x210.frozen? ⟨br, 10, none⟩ = false := HO.out.frz 1 rfl 10
    have k1_11_214 : x210.cell? ⟨br, 11, none⟩ = some (.slice none 0 0) := HO.out.cell 1 rfl 11 rfl
    have lk1_11_214 : x210.frozen? ⟨br, 11, none⟩ = false := HO.out.frz 1 rfl 11
    have k1_12_215 : x210.cell? ⟨br, 12, none⟩ = some (.string ⟨#[]⟩) := HO.out.cell 1 rfl 12 rfl
    have lk1_12_215 : x210.frozen? ⟨br, 12, none⟩ = false := HO.out.frz 1 rfl 12
    obtain ⟨x216, hx216⟩ : ∃ y, x210.setCell ⟨br, 8, none⟩ (.int .i64 0) = y := ⟨_, rfl⟩
    have hO := HO.out.setCell 1 rfl 8 (.int .i64 0)
    rw [hx216] at hO
    replace HO := Lib.hid (show Own w none0 x216 [blkR bt (.cells #[.string s] 9), blkR br (.cells #[.int .i64 fp, .int .i64 tp, .int .i64 q, .int .i64 0, .bool false, .bool false, .bool false, .bool false, .int .i64 0, .int .i64 0, .bool false, .slice none 0 0, .string ⟨#[]⟩] 51), blkR ba (.cells #[.int .i64 20] 3), blkR bs (.cells #[.int .i64 fp, .int .i64 tp, .int .i64 q, .int .i64 0, .bool false, .bool false, .bool false, .bool false, .int .i64 0, .int .i64 0, .bool false, .slice none 0 0, .string d] 51)] from hO)
    clear hO
    have k1_9_217 : x216.cell? ⟨br, 9, none⟩ = some (.int .i64 0) := HO.out.cell 1 rfl 9 rfl
    have lk1_9_217 : x216.frozen? ⟨br, 9, none⟩ = false := HO.out.frz 1 rfl 9
    have k1_10_218 : x216.cell? ⟨br, 10, none⟩ = some (.bool false) := HO.out.cell 1 rfl 10 rfl
    have lk1_10_218 : x216.frozen? ⟨br, 10, none⟩ = false := HO.out.frz 1 rfl 10
    have k1_11_219 : x216.cell? ⟨br, 11, none⟩ = some (.slice none 0 0) := HO.out.cell 1 rfl 11 rfl
    have lk1_11_219 : x216.frozen? ⟨br, 11, none⟩ = false := HO.out.frz 1 rfl 11
    have k1_12_220 : x216.cell? ⟨br, 12, none⟩ = some (.string ⟨#[]⟩) := HO.out.cell 1 rfl 12 rfl
    have lk1_12_220 : x216.frozen? ⟨br, 12, none⟩ = false := HO.out.frz 1 rfl 12
    obtain ⟨x221, hx221⟩ : ∃ y, x216.setCell ⟨br, 9, none⟩ (.int .i64 0) = y := ⟨_, rfl⟩
    have hO := HO.out.setCell 1 rfl 9 (.int .i64 0)
    rw [hx221] at hO
    replace HO := Lib.hid (show Own w none0 x221 [blkR bt (.cells #[.string s] 9), blkR br (.cells #[.int .i64 fp, .int .i64 tp, .int .i64 q, .int .i64 0, .bool false, .bool false, .bool false, .bool false, .int .i64 0, .int .i64 0, .bool false, .slice none 0 0, .string ⟨#[]⟩] 51), blkR ba (.cells #[.int .i64 20] 3), blkR bs (.cells #[.int .i64 fp, .int .i64 tp, .int .i64 q, .int .i64 0, .bool false, .bool false, .bool false, .bool false, .int .i64 0, .int .i64 0, .bool false, .slice none 0 0, .string d] 51)] from hO)
    clear hO
    have k1_10_222 : x221.cell? ⟨br, 10, none⟩ = some (.bool false) := HO.out.cell 1 rfl 10 rfl
    have lk1_10_222 : x221.frozen? ⟨br, 10, none⟩ = false := HO.out.frz 1 rfl 10
    have k1_11_223 : x221.cell? ⟨br, 11, none⟩ = some (.slice none 0 0) := HO.out.cell 1 rfl 11 rfl
    have lk1_11_223 : x221.frozen? ⟨br, 11, none⟩ = false := HO.out.frz 1 rfl 11
    have k1_12_224 : x221.cell? ⟨br, 12, none⟩ = some (.string ⟨#[]⟩) := HO.out.cell 1 rfl 12 rfl
    have lk1_12_224 : x221.frozen? ⟨br, 12, none⟩ = false := HO.out.frz 1 rfl 12
    obtain ⟨x225, hx225⟩ : ∃ y, x221.setCell ⟨br, 10, none⟩ (.bool false) = y := ⟨_, rfl⟩
    have hO := HO.out.setCell 1 rfl 10 (.bool false)
    rw [hx225] at hO
    replace HO := Lib.hid (show Own w none0 x225 [blkR bt (.cells #[.string s] 9), blkR br (.cells #[.int .i64 fp, .int .i64 tp, .int .i64 q, .int .i64 0, .bool false, .bool false, .bool false, .bool false, .int .i64 0, .int .i64 0, .bool false, .slice none 0 0, .string ⟨#[]⟩] 51), blkR ba (.cells #[.int .i64 20] 3), blkR bs (.cells #[.int .i64 fp, .int .i64 tp, .int .i64 q, .int .i64 0, .bool false, .bool false, .bool false, .bool false, .int .i64 0, .int .i64 0, .bool false, .slice none 0 0, .string d] 51)] from hO)
    clear hO
    have k1_11_226 : x225.cell? ⟨br, 11, none⟩ = some (.slice none 0 0) := HO.out.cell 1 rfl 11 rfl
    have lk1_11_226 : x225.frozen? ⟨br, 11, none⟩ = false := HO.out.frz 1 rfl 11
    have k1_12_227 : x225.cell? ⟨br, 12, none⟩ = some (.string ⟨#[]⟩) := HO.out.cell 1 rfl 12 rfl
    have lk1_12_227 : x225.frozen? ⟨br, 12, none⟩ = false := HO.out.frz 1 rfl 12
    obtain ⟨x228, hx228⟩ : ∃ y, x225.setCell ⟨br, 11, none⟩ (.slice none 0 0) = y := ⟨_, rfl⟩
    have hO := HO.out.setCell 1 rfl 11 (.slice none 0 0)
    rw [hx228] at hO
    replace HO := Lib.hid (show Own w none0 x228 [blkR bt (.cells #[.string s] 9), blkR br (.cells #[.int .i64 fp, .int .i64 tp, .int .i64 q, .int .i64 0, .bool false, .bool false, .bool false, .bool false, .int .i64 0, .int .i64 0, .bool false, .slice none 0 0, .string ⟨#[]⟩] 51), blkR ba (.cells #[.int .i64 20] 3), blkR bs (.cells #[.int .i64 fp, .int .i64 tp, .int .i64 q, .int .i64 0, .bool false, .bool false, .bool false, .bool false, .int .i64 0, .int .i64 0, .bool false, .slice none 0 0, .string d] 51)] from hO)
    clear hO
    have k1_12_229 : x228.cell? ⟨br, 12, none⟩ = some (.string ⟨#[]⟩) := HO.out.cell 1 rfl 12 rfl
    have lk1_12_229 : x228.frozen? ⟨br, 12, none⟩ = false := HO.out.frz 1 rfl 12
    obtain ⟨x230, hx230⟩ : ∃ y, x228.setCell ⟨br, 12, none⟩ (.string d) = y := ⟨_, rfl⟩
    have hO := HO.out.setCell 1 rfl 12 (.string d)
    rw [hx230] at hO
    replace HO := Lib.hid (show Own w none0 x230 [blkR bt (.cells #[.string s] 9), blkR br (.cells #[.int .i64 fp, .int .i64 tp, .int .i64 q, .int .i64 0, .bool false, .bool false, .bool false, .bool false, .int .i64 0, .int .i64 0, .bool false, .slice none 0 0, .string d] 51), blkR ba (.cells #[.int .i64 20] 3), blkR bs (.cells #[.int .i64 fp, .int .i64 tp, .int .i64 q, .int .i64 0, .bool false, .bool false, .bool false, .bool false, .int .i64 0, .int .i64 0, .bool false, .slice none 0 0, .string d] 51)] from hO)
    clear hO
    go_wp2
    refine bodyPost_ret (results_row_tmp rfl _ _ _ br 51 _ _ _ rfl (HO.out.blk 1 rfl) Try.underlying51 rfl infoSg) rfl ?_
    exact ⟨rfl, HO.out.below⟩
end Go.Proofs.Ytjngfhgcifhioaa
