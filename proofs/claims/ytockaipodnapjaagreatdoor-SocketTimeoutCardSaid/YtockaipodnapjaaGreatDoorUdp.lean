/- Package udp: Encode at any valid datagram, and Decode at what Encode wrote. Printed by wip/tools/gen23I.py. -/
import Derived.Test.YtockaipodnapjaaGreatDoorJn
import Derived.Test.YtockaipodnapjaaGreatDoorCks
import Derived.Test.YtockaipodnapjaaGreatDoorTbl
namespace Go.Proofs.YtockaipodnapjaaGreatDoor
open Go.RowKit Go.Sort
set_option linter.unusedVariables false
set_option maxRecDepth 100000

theorem results_cc {fn : Func} {p q : Tmp} {ty ty2 : TypeId} (h : fn.results = #[.cell p ty, .cell q ty2]) (tmps : Array Value) (P : Program) (w : World) {u1 u2 : Value} {a1 a2 : Addr} (hp : tmps.getD p undef = .pointer (some a1)) (hq : tmps.getD q undef = .pointer (some a2)) (hl1 : (loadVar ty a1).run P w = .ok u1 w) (hl2 : (loadVar ty2 a2).run P w = .ok u2 w) : (results fn tmps).run P w = .ok (.tuple #[u1, u2]) w := by
  have hp' : tmps[p]?.getD undef = .pointer (some a1) := by simpa using hp
  have hq' : tmps[q]?.getD undef = .pointer (some a2) := by simpa using hq
  simp only [results, h]
  simp [Sem.run_bind, Result.andThen, hp', hq', asAddr, hl1, hl2]
theorem results_rc {fn : Func} {p q : Tmp} {ty ty2 : TypeId} (h : fn.results = #[.cell p ty, .cell q ty2]) (tmps : Array Value) (P : Program) (w : World) (g : Nat) (t : TypeId) (cs : Array Value) (fr : Nat × Nat) (d : TypeDesc)
    (hp : tmps.getD p undef = .pointer (some ⟨g, 0, none⟩)) (hg : w.heap[g]? = some (.cells cs t fr))
    (hu : P.underlying ty = some d) (hd : (match d with | .struct _ | .array _ _ => true | _ => false) = true) (hi : (P.info? ty).map (·.size) = some cs.size)
    {u : Value} {a2 : Addr} (hq : tmps.getD q undef = .pointer (some a2)) (hl : (loadVar ty2 a2).run P w = .ok u w) :
    (results fn tmps).run P w = .ok (.tuple #[.agg cs, u]) w := by
  have hp' : tmps[p]?.getD undef = .pointer (some ⟨g, 0, none⟩) := by simpa using hp
  have hq' : tmps[q]?.getD undef = .pointer (some a2) := by simpa using hq
  simp only [results, h]
  simp [Sem.run_bind, Result.andThen, hp', hq', asAddr, run_loadVar_row w g t ty cs fr d hg hu (by revert hd; cases d <;> exact id) hi, hl]
theorem idleEncode (p q : Addr) (w : World) :
    CallsD Tryz.prog 271 #[.pointer (some p), .pointer (some q)] .returning w fun e u' w' => e = .returned (.tuple #[]) ∧ u' = .returning ∧ w' = w := by
  refine callsD_of_wpS Tryz.func271 rfl fun c₀ cs hu => ?_
  apply wpS_seq
  apply wpS_region
  simp [wpOpsS, go_sem, recoverD, hu, Tryz.ntmps271, Exit.thenS]
  apply wpS_seq
  apply wpS_region
  simp [wpOpsS, go_sem, Exit.thenS]
  refine wpS_cond (t := false) (by simp [Act.eval, Array.replicate]) ?_
  simp only [Bool.false_eq_true, if_false]
  refine wpS_of_wp (wp_skip ?_)
  cases c₀
  simp_all [bodyPostS, results, Tryz.results271]
theorem idleDecode (p q : Addr) (w : World) :
    CallsD Tryz.prog 83 #[.pointer (some p), .pointer (some q)] .returning w fun e u' w' => e = .returned (.tuple #[]) ∧ u' = .returning ∧ w' = w := by
  refine callsD_of_wpS Tryz.func83 rfl fun c₀ cs hu => ?_
  apply wpS_seq
  apply wpS_region
  simp [wpOpsS, go_sem, recoverD, hu, Tryz.ntmps83, Exit.thenS]
  apply wpS_seq
  apply wpS_region
  simp [wpOpsS, go_sem, Exit.thenS]
  refine wpS_cond (t := false) (by simp [Act.eval, Array.replicate]) ?_
  simp only [Bool.false_eq_true, if_false]
  refine wpS_of_wp (wp_skip ?_)
  cases c₀
  simp_all [bodyPostS, results, Tryz.results83]
attribute [local go_sem] Oper.semAt_some
theorem uport_r (n : Int) (w : World) (h0 : 1 ≤ n) (h1 : n ≤ 65535) : Calls Tryz.prog 272 #[.int .i64 n] w fun e w' => e = .returned (.bool true) ∧ w = w' := by
  have d1 : decide (1 ≤ n) = true := decide_eq_true h0
  have d2 : decide (n ≤ 65535) = true := decide_eq_true h1
  go_enter Tryz.func272, Tryz.ntmps272
  go_wp2
  go_ret
  simp [*]
theorem uadr_r (n : Int) (w : World) (h0 : 0 ≤ n) (h1 : n ≤ 4294967295) : Calls Tryz.prog 32 #[.int .i64 n] w fun e w' => e = .returned (.bool true) ∧ w = w' := by
  have d1 : decide (n ≥ 0) = true := decide_eq_true h0
  have d2 : decide (n ≤ 4294967295) = true := decide_eq_true h1
  have d3 : decide (0 ≤ n) = true := decide_eq_true h0
  go_enter Tryz.func32, Tryz.ntmps32
  go_wp2
  go_ret
  simp [*]
theorem unum_r (n b : Int) (s : ByteArray) (hp : ∀ w, Calls Tryz.prog 54 #[.int .i64 n, .int .i64 b] w fun e w' => e = .returned (.tuple #[.string s, .int .i64 0]) ∧ Below w.heap.size w w') (w : World) : Calls Tryz.prog 215 #[.int .i64 n, .int .i64 b] w fun e w' => e = .returned (.string s) ∧ Below w.heap.size w w' := by
  go_enter Tryz.func215, Tryz.ntmps215
  go_wp2_with fail
  refine (hp _).mono ?_
  rintro e x1 ⟨rfl, hb⟩
  go_wp2
  go_ret
  exact ⟨rfl, hb⟩
theorem uget_r (s : ByteArray) (p : Nat) (m : Int) (hg : ∀ w, Calls Tryz.prog 161 #[.string s, .int .i64 p, .int .i64 2] w fun e w' => e = .returned (.tuple #[.int .i64 m, .int .i64 0]) ∧ Below w.heap.size w w') (w : World) : Calls Tryz.prog 158 #[.string s, .int .i64 p] w fun e w' => e = .returned (.int .i64 m) ∧ Below w.heap.size w w' := by
  go_enter Tryz.func158, Tryz.ntmps158
  go_wp2_with fail
  refine (hg _).mono ?_
  rintro e x1 ⟨rfl, hb⟩
  go_wp2
  go_ret
  exact ⟨rfl, hb⟩
def sblkN (B n : Nat) (o : Obj) : Pred := fun v w => ∃ b, v = .slice (some ⟨b, 0, none⟩) n n ∧ B ≤ b ∧ w.heap[b]? = some o
theorem sblkN_lasts (B n : Nat) (o : Obj) : Lasts (sblkN B n o) := by
  rintro v w w' ⟨b, rfl, hB, hb⟩ hbl
  exact ⟨b, rfl, hB, (hbl.block b (Array.getElem?_eq_some_iff.1 hb).1).trans hb⟩
theorem run_bs7 (a b c d e f g : ByteArray) (w : World) : (Instr.buildSlice 343 7 #[(0, .string a), (1, .string b), (2, .string c), (3, .string d), (4, .string e), (5, .string f), (6, .string g)]).run Tryz.prog w = .ok (.slice (some ⟨w.heap.size, 0, none⟩) 7 7) (w.alloc (.cells #[.string a, .string b, .string c, .string d, .string e, .string f, .string g] 9)) := by kernel_rfl
abbrev udA (fp tp : Int) (s : ByteArray) : Array Value := #[.int .i64 fp, .int .i64 tp, .string s]
theorem uvalid_r (fp tp : Int) (s : ByteArray) (w : World) (p0 : 1 ≤ fp) (p1 : fp ≤ 65535) (p2 : 1 ≤ tp) (p3 : tp ≤ 65535) (hs : s.size ≤ 2000) : Calls Tryz.prog 214 #[.agg (udA fp tp s)] w fun e w' => e = .returned (.bool true) ∧ Below w.heap.size w w' := by
  have HO := Lib.hid (Own.nil w none0)
  have P1 := Lib.hid (fun w => uport_r fp w p0 p1)
  have P2 := Lib.hid (fun w => uport_r tp w p2 p3)
  have d1 : decide ((s.size : Int) ≤ 2000) = true := decide_eq_true (by omega)
  clear hs
  obtain ⟨x1, hx1⟩ : ∃ y, w.alloc (.cells #[.int .i64 fp, .int .i64 tp, .string s] 134) = y := ⟨_, rfl⟩
  obtain ⟨bu, hbu⟩ : ∃ y, w.heap.size = y := ⟨_, rfl⟩
  have hO := HO.out.alloc (.cells #[.int .i64 fp, .int .i64 tp, .string s] 134)
  rw [hx1, hbu] at hO
  replace HO := Lib.hid (show Own w none0 x1 [blkR bu (.cells #[.int .i64 fp, .int .i64 tp, .string s] 134)] from hO)
  clear hO
  have z0_0 : x1.cell? ⟨bu, 0, none⟩ = some (.int .i64 fp) := HO.out.cell 0 rfl 0 rfl
  have z0_1 : x1.cell? ⟨bu, 1, none⟩ = some (.int .i64 tp) := HO.out.cell 0 rfl 1 rfl
  have z0_2 : x1.cell? ⟨bu, 2, none⟩ = some (.string s) := HO.out.cell 0 rfl 2 rfl
  go_enter Tryz.func214, Tryz.ntmps214
  go_wp2_with fail
  refine (P1.out _).mono ?_
  rintro e xp ⟨rfl, rfl⟩
  go_wp2_with fail
  refine (P2.out _).mono ?_
  rintro e xp ⟨rfl, rfl⟩
  go_wp2
  go_ret
  exact ⟨by simp [*], HO.out.below⟩
theorem uck_r (bk c : Nat) (xs : List ByteArray) (w : World) (hcells : ∀ (j : Nat) x, xs[j]? = some x → w.cell? ⟨bk, 0 + j, none⟩ = some (.string x)) (hbk : bk < w.heap.size) (hn : xs.length ≤ 100) (hcap : xs.length ≤ c) (j : ByteArray) (hj : ⟨(Lib.join (xs.map (·.data.toList)) (⟨#[]⟩ : ByteArray).data.toList).toArray⟩ = j) (hlen : j.size ≤ 100000) :
    Calls Tryz.prog 216 #[.slice (some ⟨bk, 0, none⟩) xs.length c] w fun e w' => e = .returned (.int .i64 (ckF j)) ∧ Below w.heap.size w w' := by
  have hl2 : (Lib.join (xs.map (·.data.toList)) (⟨#[]⟩ : ByteArray).data.toList).length ≤ 140737488355328 := by
    have : j.size = (Lib.join (xs.map (·.data.toList)) (⟨#[]⟩ : ByteArray).data.toList).length := by rw [← hj]; simp [ByteArray.size]
    omega
  have HJ := Lib.hid (fun w h => join_any bk 0 c xs ⟨#[]⟩ w h)
  have HC := Lib.hid (fun w => cksum_r j hlen w)
  have HX := Lib.hid (And.intro hcells hbk)
  obtain ⟨n, hnn⟩ : ∃ n, xs.length = n := ⟨_, rfl⟩
  have HN := Lib.hid hnn
  rw [hnn] at HJ hn hcap ⊢
  have HB := Lib.hid (And.intro hn hcap)
  clear hcells hbk hnn
  go_enter Tryz.func216, Tryz.ntmps216
  go_wp2_with fail
  refine (HJ.out _ HX.out.1 HX.out.2 (by have := HB.out.1; omega) HB.out.2 hl2).mono ?_
  rw [hj]
  rintro e x1 ⟨rfl, hb1⟩
  go_wp2_with fail
  refine (HC.out _).mono ?_
  rintro e x2 ⟨rfl, hb2⟩
  go_wp2
  go_ret
  exact ⟨rfl, hb1.trans (hb2.mono hb1.size)⟩
def bS (k : Nat) (n : Int) : ByteArray := ⟨(beN k n).toArray⟩
theorem bS_sz (k : Nat) (n : Int) : (bS k n).size = k := by show (beN k n).toArray.size = k; simp [beN_len]
def enU (fr to : Int) : ByteArray := bS 4 fr ++ bS 4 to
def hdU (fp tp : Int) (s : ByteArray) : ByteArray := bS 2 fp ++ bS 2 tp ++ bS 2 (8 + (s.size : Int))
def ptU (fr to fp tp : Int) (s : ByteArray) : List ByteArray := [enU fr to, bS 1 0, bS 1 17, bS 2 (8 + (s.size : Int)), hdU fp tp s, bS 2 0, s]
def jnU (fr to fp tp : Int) (s : ByteArray) : ByteArray := ⟨(Lib.join ((ptU fr to fp tp s).map (·.data.toList)) (⟨#[]⟩ : ByteArray).data.toList).toArray⟩
def encU (fr to fp tp : Int) (s : ByteArray) : ByteArray := hdU fp tp s ++ bS 2 (ckF (jnU fr to fp tp s)) ++ s
theorem ba_len (s : ByteArray) : s.data.toList.length = s.size := by show _ = s.data.size; exact Array.length_toList
theorem jnU_sz (fr to fp tp : Int) (s : ByteArray) : (jnU fr to fp tp s).size = 20 + s.size := by
  unfold jnU ptU
  show (Lib.join _ _).toArray.size = _
  simp only [List.size_toArray, List.map_cons, List.map_nil, Lib.join_cons, Lib.joinTail, List.flatten_cons, List.flatten_nil, List.length_append, ba_len, enU, hdU, ByteArray.size_append, bS_sz, List.length_nil]
  show 4 + 4 + (0 + 1 + (0 + 1 + (0 + 2 + (0 + (2 + 2 + 2) + (0 + 2 + (0 + s.size + 0)))))) = _
  omega
theorem jn_ok (fr to fp tp : Int) (s : ByteArray) : (⟨(Lib.join ((ptU fr to fp tp s).map (·.data.toList)) (⟨#[]⟩ : ByteArray).data.toList).toArray⟩ : ByteArray) = jnU fr to fp tp s := rfl
theorem uencode_r (fr to fp tp : Int) (s : ByteArray) (w : World) (f0 : 1 ≤ fr) (f1 : fr ≤ 4294967295) (t0 : 1 ≤ to) (t1 : to ≤ 4294967295) (p0 : 1 ≤ fp) (p1 : fp ≤ 65535) (p2 : 1 ≤ tp) (p3 : tp ≤ 65535) (hs : s.size ≤ 2000) :
    Calls Tryz.prog 159 #[.int .i64 fr, .int .i64 to, .agg (udA fp tp s)] w fun e w' => e = .returned (.string (encU fr to fp tp s)) ∧ Below w.heap.size w w' := by
  have HO := Lib.hid (Own.nil w none0)
  have HV := Lib.hid (fun w => uvalid_r fp tp s w p0 p1 p2 p3 hs)
  have HA1 := Lib.hid (fun w => uadr_r fr w (by omega) f1)
  have HA2 := Lib.hid (fun w => uadr_r to w (by omega) t1)
  have n1 : (fr == 0) = false := by simp; omega
  have n2 : (to == 0) = false := by simp; omega
  have n3 : decide (fr = 0) = false := decide_eq_false (by omega)
  have n4 : decide (to = 0) = false := decide_eq_false (by omega)
  have hr := ckF_range (jnU fr to fp tp s)
  obtain ⟨sm, hsm⟩ : ∃ y, ckF (jnU fr to fp tp s) = y := ⟨_, rfl⟩
  rw [hsm] at hr
  obtain ⟨m, hm⟩ : ∃ m, s.size = m := ⟨_, rfl⟩
  have P1 := Lib.hid (fun w => unum_r (8 + (m : Int)) 2 (bS 2 (8 + (m : Int))) (fun w => put_2 _ w (by omega) (by omega)) w)
  have P2 := Lib.hid (fun w => unum_r fr 4 (bS 4 fr) (fun w => put_4 _ w (by omega) (by omega)) w)
  have P3 := Lib.hid (fun w => unum_r to 4 (bS 4 to) (fun w => put_4 _ w (by omega) (by omega)) w)
  have P4 := Lib.hid (fun w => unum_r fp 2 (bS 2 fp) (fun w => put_2 _ w (by omega) (by omega)) w)
  have P5 := Lib.hid (fun w => unum_r tp 2 (bS 2 tp) (fun w => put_2 _ w (by omega) (by omega)) w)
  have P6 := Lib.hid (fun w => unum_r 0 1 (bS 1 0) (fun w => put_1 _ w (by omega) (by omega)) w)
  have P7 := Lib.hid (fun w => unum_r 17 1 (bS 1 17) (fun w => put_1 _ w (by omega) (by omega)) w)
  have P8 := Lib.hid (fun w => unum_r 0 2 (bS 2 0) (fun w => put_2 _ w (by omega) (by omega)) w)
  have P9 := Lib.hid (fun w => unum_r sm 2 (bS 2 sm) (fun w => put_2 _ w (by omega) (by omega)) w)
  have HQ := Lib.hid (show encU fr to fp tp s = bS 2 fp ++ bS 2 tp ++ bS 2 (8 + (m : Int)) ++ bS 2 sm ++ s by unfold encU hdU; rw [hsm, hm])
  have HJ := Lib.hid (fun (bk : Nat) (w : World) (h : w.heap[bk]? = some (.cells #[.string (bS 4 fr ++ bS 4 to), .string (bS 1 0), .string (bS 1 17), .string (bS 2 (8 + (m : Int))), .string (bS 2 fp ++ bS 2 tp ++ bS 2 (8 + (m : Int))), .string (bS 2 0), .string s] 9)) => hsm ▸ uck_r bk 7 (ptU fr to fp tp s) w (fun j x hx => by
    rw [← hm] at h
    simp only [World.cell?, Nat.zero_add, h]
    have : j < 7 := by rcases Nat.lt_or_ge j 7 with h | h; exact h; rw [List.getElem?_eq_none h] at hx; cases hx
    match j, this with
    | 0, _ | 1, _ | 2, _ | 3, _ | 4, _ | 5, _ | 6, _ => cases hx; rfl) ((Array.getElem?_eq_some_iff.1 h).1) (by show 7 ≤ 100; decide) (Nat.le_refl 7) _ rfl (by show (jnU fr to fp tp s).size ≤ 100000; rw [jnU_sz]; omega))
  have s1 := Lib.hid (bS_sz 2 (8 + (m : Int)))
  have s2 := Lib.hid (bS_sz 4 fr)
  have s3 := Lib.hid (bS_sz 4 to)
  have s4 := Lib.hid (bS_sz 2 fp)
  have s5 := Lib.hid (bS_sz 2 tp)
  have s9 := Lib.hid (bS_sz 2 sm)
  generalize bS 2 (8 + (m : Int)) = a1 at *
  generalize bS 4 fr = a2 at *
  generalize bS 4 to = a3 at *
  generalize bS 2 fp = a4 at *
  generalize bS 2 tp = a5 at *
  generalize bS 1 0 = a6 at *
  generalize bS 1 17 = a7 at *
  generalize bS 2 0 = a8 at *
  generalize bS 2 sm = a9 at *
  generalize encU fr to fp tp s = en at *
  have u1 : a1.size = 2 := s1.out
  have u2 : a2.size = 4 := s2.out
  have u3 : a3.size = 4 := s3.out
  have u4 : a4.size = 2 := s4.out
  have u5 : a5.size = 2 := s5.out
  have u9 : a9.size = 2 := s9.out
  have U3 := Lib.hid hm
  have U4 := Lib.hid (show m ≤ 2000 by omega)
  clear hsm hr s1 s2 s3 s4 s5 s9 hs hm f0 f1 t0 t1 p0 p1 p2 p3
  obtain ⟨x1, hx1⟩ : ∃ y, w.alloc (.cells #[.int .i64 fp, .int .i64 tp, .string s] 134) = y := ⟨_, rfl⟩
  obtain ⟨bu, hbu⟩ : ∃ y, w.heap.size = y := ⟨_, rfl⟩
  have hO := HO.out.alloc (.cells #[.int .i64 fp, .int .i64 tp, .string s] 134)
  rw [hx1, hbu] at hO
  replace HO := Lib.hid (show Own w none0 x1 [blkR bu (.cells #[.int .i64 fp, .int .i64 tp, .string s] 134)] from hO)
  clear hO
  have z0_0 : x1.cell? ⟨bu, 0, none⟩ = some (.int .i64 fp) := HO.out.cell 0 rfl 0 rfl
  have z0_1 : x1.cell? ⟨bu, 1, none⟩ = some (.int .i64 tp) := HO.out.cell 0 rfl 1 rfl
  have z0_2 : x1.cell? ⟨bu, 2, none⟩ = some (.string s) := HO.out.cell 0 rfl 2 rfl
  go_enter Tryz.func159, Tryz.ntmps159
  go_wp2_with fail
  refine (o_still HO.out (HV.out _)).mono ?_
  rintro e x2 ⟨rfl, hO, -⟩
  replace HO := Lib.hid (show Own w none0 x2 [blkR bu (.cells #[.int .i64 fp, .int .i64 tp, .string s] 134)] from hO)
  clear hO
  clear hx1 hbu z0_0 z0_1 z0_2
  have z0_0 : x2.cell? ⟨bu, 0, none⟩ = some (.int .i64 fp) := HO.out.cell 0 rfl 0 rfl
  have z0_1 : x2.cell? ⟨bu, 1, none⟩ = some (.int .i64 tp) := HO.out.cell 0 rfl 1 rfl
  have z0_2 : x2.cell? ⟨bu, 2, none⟩ = some (.string s) := HO.out.cell 0 rfl 2 rfl
  go_wp2_with fail
  refine (HA1.out _).mono ?_
  rintro e xp ⟨rfl, rfl⟩
  go_wp2_with fail
  refine (HA2.out _).mono ?_
  rintro e xp ⟨rfl, rfl⟩
  have u6 : s.size = m := U3.out
  have u7 : m ≤ 2000 := U4.out
  go_wp2_with fail
  refine (o_still HO.out (P1.out _)).mono ?_
  rintro e x3 ⟨rfl, hO, -⟩
  replace HO := Lib.hid (show Own w none0 x3 [blkR bu (.cells #[.int .i64 fp, .int .i64 tp, .string s] 134)] from hO)
  clear hO
  clear z0_0 z0_1 z0_2
  have z0_0 : x3.cell? ⟨bu, 0, none⟩ = some (.int .i64 fp) := HO.out.cell 0 rfl 0 rfl
  have z0_1 : x3.cell? ⟨bu, 1, none⟩ = some (.int .i64 tp) := HO.out.cell 0 rfl 1 rfl
  have z0_2 : x3.cell? ⟨bu, 2, none⟩ = some (.string s) := HO.out.cell 0 rfl 2 rfl
  go_wp2_with fail
  refine (o_still HO.out (P2.out _)).mono ?_
  rintro e x4 ⟨rfl, hO, -⟩
  replace HO := Lib.hid (show Own w none0 x4 [blkR bu (.cells #[.int .i64 fp, .int .i64 tp, .string s] 134)] from hO)
  clear hO
  clear z0_0 z0_1 z0_2
  have z0_0 : x4.cell? ⟨bu, 0, none⟩ = some (.int .i64 fp) := HO.out.cell 0 rfl 0 rfl
  have z0_1 : x4.cell? ⟨bu, 1, none⟩ = some (.int .i64 tp) := HO.out.cell 0 rfl 1 rfl
  have z0_2 : x4.cell? ⟨bu, 2, none⟩ = some (.string s) := HO.out.cell 0 rfl 2 rfl
  go_wp2_with fail
  refine (o_still HO.out (P3.out _)).mono ?_
  rintro e x5 ⟨rfl, hO, -⟩
  replace HO := Lib.hid (show Own w none0 x5 [blkR bu (.cells #[.int .i64 fp, .int .i64 tp, .string s] 134)] from hO)
  clear hO
  clear z0_0 z0_1 z0_2
  have z0_0 : x5.cell? ⟨bu, 0, none⟩ = some (.int .i64 fp) := HO.out.cell 0 rfl 0 rfl
  have z0_1 : x5.cell? ⟨bu, 1, none⟩ = some (.int .i64 tp) := HO.out.cell 0 rfl 1 rfl
  have z0_2 : x5.cell? ⟨bu, 2, none⟩ = some (.string s) := HO.out.cell 0 rfl 2 rfl
  have g0_0 := cell_regrown (show x5.cell? ⟨bu, 0, none⟩ = some (.int .i64 fp) from HO.out.cell 0 rfl 0 rfl)
  have g0_1 := cell_regrown (show x5.cell? ⟨bu, 1, none⟩ = some (.int .i64 tp) from HO.out.cell 0 rfl 1 rfl)
  have g0_2 := cell_regrown (show x5.cell? ⟨bu, 2, none⟩ = some (.string s) from HO.out.cell 0 rfl 2 rfl)
  go_wp2_with fail
  refine wp_region_B (by kernel_rfl) (by kernel_rfl) ?_
  iterate 2 (go_big_quiet_step (fail))
  go_big_quiet_step ((go_at_call 215 ; exact Calls.regrown_of (P4.out _)))
  iterate 2 (go_big_quiet_step (fail))
  go_big_quiet_step ((go_at_call 215 ; exact Calls.regrown_of (P5.out _)))
  iterate 4 (go_big_quiet_step (fail))
  refine wpQuiet_nil ?_
  intro x60 hbw
  have hO := HO.out.stay hbw
  replace HO := Lib.hid (show Own w none0 x60 [blkR bu (.cells #[.int .i64 fp, .int .i64 tp, .string s] 134)] from hO)
  clear hO hbw g0_0 g0_1 g0_2
  have z0_0t : x60.cell? ⟨bu, 0, none⟩ = some (.int .i64 fp) := HO.out.cell 0 rfl 0 rfl
  have z0_1t : x60.cell? ⟨bu, 1, none⟩ = some (.int .i64 tp) := HO.out.cell 0 rfl 1 rfl
  have z0_2t : x60.cell? ⟨bu, 2, none⟩ = some (.string s) := HO.out.cell 0 rfl 2 rfl
  go_wp2_with fail
  clear z0_0 z0_1 z0_2 z0_0t z0_1t z0_2t
  have g0_2 := cell_regrown (show x60.cell? ⟨bu, 2, none⟩ = some (.string s) from HO.out.cell 0 rfl 2 rfl)
  refine wp_region_R 9 (by kernel_rfl) (by kernel_rfl) ?_
  simp only [List.take, List.drop]
  iterate 1 (first | (refine wpR_want (by kernel_rfl) rfl rfl ?_; intro K hK; go_big_quiet_op; go_big_quiet_on) | (refine wpR_is (by kernel_rfl) rfl _ (fun w _ => rfl) ?_; simp only [Act.put, List.setIfInBounds_toArray, List.set_cons_succ, List.set_cons_zero]))
  refine wpR_call (by kernel_rfl) rfl 215  #[.int .i64 0, .int .i64 1] (.string a6) (fun w => by simp [go_sem]) (fun w hb => P6.out w) ?_
  simp only [Act.put, List.setIfInBounds_toArray, List.set_cons_succ, List.set_cons_zero]
  refine wpR_call (by kernel_rfl) rfl 215  #[.int .i64 17, .int .i64 1] (.string a7) (fun w => by simp [go_sem]) (fun w hb => P7.out w) ?_
  simp only [Act.put, List.setIfInBounds_toArray, List.set_cons_succ, List.set_cons_zero]
  iterate 2 (first | (refine wpR_want (by kernel_rfl) rfl rfl ?_; intro K hK; go_big_quiet_op; go_big_quiet_on) | (refine wpR_is (by kernel_rfl) rfl _ (fun w _ => rfl) ?_; simp only [Act.put, List.setIfInBounds_toArray, List.set_cons_succ, List.set_cons_zero]))
  refine wpR_call (by kernel_rfl) rfl 215  #[.int .i64 0, .int .i64 2] (.string a8) (fun w => by simp [go_sem]) (fun w hb => P8.out w) ?_
  simp only [Act.put, List.setIfInBounds_toArray, List.set_cons_succ, List.set_cons_zero]
  iterate 2 (first | (refine wpR_want (by kernel_rfl) rfl rfl ?_; intro K hK; go_big_quiet_op; go_big_quiet_on) | (refine wpR_is (by kernel_rfl) rfl _ (fun w _ => rfl) ?_; simp only [Act.put, List.setIfInBounds_toArray, List.set_cons_succ, List.set_cons_zero]))
  refine wpR_ex (sblkN x60.heap.size 7 (.cells #[.string (a2 ++ a3), .string a6, .string a7, .string a1, .string (a4 ++ a5 ++ a1), .string a8, .string s] 9)) (sblkN_lasts _ _ _) (by kernel_rfl) (fun a' w' hw' he => ?_) (fun d hd => ?_)
  · have hs := hw'.size
    obtain ⟨h52, h53, h54, h55, h56, h57, h59, _⟩ := he
    have h52' : a'.eval (.tmp 52) = .string (a2 ++ a3) := h52
    have h53' : a'.eval (.tmp 53) = .string a6 := h53
    have h54' : a'.eval (.tmp 54) = .string a7 := h54
    have h55' : a'.eval (.tmp 55) = .string a1 := h55
    have h56' : a'.eval (.tmp 56) = .string (a4 ++ a5 ++ a1) := h56
    have h57' : a'.eval (.tmp 57) = .string a8 := h57
    have h59' : a'.eval (.tmp 59) = .string s := h59
    refine wp_of_value (v := .slice (some ⟨w'.heap.size, 0, none⟩) 7 7) (w' := w'.alloc (.cells #[.string (a2 ++ a3), .string a6, .string a7, .string a1, .string (a4 ++ a5 ++ a1), .string a8, .string s] 9)) (run_v_ok ?_) ⟨_, rfl, (Below.refl _ _).alloc (Nat.le_refl _) _, ⟨w'.heap.size, rfl, hs, new_block _ _⟩⟩
    simp only [List.map_toArray, List.map_cons, List.map_nil, h52', h53', h54', h55', h56', h57', h59']
    exact run_bs7 _ _ _ _ _ _ _ _
  cases hd
  simp only [List.nil_append]
  refine wpR_nil (by kernel_rfl) (by simp) ?_
  rintro x61 hbw
  simp only [exAll]
  rintro u60 ⟨br, rfl, hgebr, hbbbr⟩
  simp only [Act.put, List.setIfInBounds_toArray, List.set_cons_succ, List.set_cons_zero, List.drop]
  have hO := HO.out.push (R := blkR br (.cells #[.string (a2 ++ a3), .string a6, .string a7, .string a1, .string (a4 ++ a5 ++ a1), .string a8, .string s] 9)) (F := fun z => z = br) ⟨fun _ => Iff.rfl, hbbbr⟩ (fun z hz => hz ▸ hgebr) hbw
  clear hgebr hbbbr
  replace HO := Lib.hid (show Own w none0 x61 [blkR bu (.cells #[.int .i64 fp, .int .i64 tp, .string s] 134), blkR br (.cells #[.string (a2 ++ a3), .string a6, .string a7, .string a1, .string (a4 ++ a5 ++ a1), .string a8, .string s] 9)] from hO)
  clear hO hbw g0_2 
  have z0_0 : x61.cell? ⟨bu, 0, none⟩ = some (.int .i64 fp) := HO.out.cell 0 rfl 0 rfl
  have z0_1 : x61.cell? ⟨bu, 1, none⟩ = some (.int .i64 tp) := HO.out.cell 0 rfl 1 rfl
  have z0_2 : x61.cell? ⟨bu, 2, none⟩ = some (.string s) := HO.out.cell 0 rfl 2 rfl
  go_wp2_with fail
  refine (o_still HO.out (HJ.out _ _ (HO.out.blk 1 rfl))).mono ?_
  rintro e x6 ⟨rfl, hO, -⟩
  replace HO := Lib.hid (show Own w none0 x6 [blkR bu (.cells #[.int .i64 fp, .int .i64 tp, .string s] 134), blkR br (.cells #[.string (a2 ++ a3), .string a6, .string a7, .string a1, .string (a4 ++ a5 ++ a1), .string a8, .string s] 9)] from hO)
  clear hO
  clear z0_0 z0_1 z0_2
  have z0_0 : x6.cell? ⟨bu, 0, none⟩ = some (.int .i64 fp) := HO.out.cell 0 rfl 0 rfl
  have z0_1 : x6.cell? ⟨bu, 1, none⟩ = some (.int .i64 tp) := HO.out.cell 0 rfl 1 rfl
  have z0_2 : x6.cell? ⟨bu, 2, none⟩ = some (.string s) := HO.out.cell 0 rfl 2 rfl
  go_wp2_with fail
  have g0_2 := cell_regrown (show x6.cell? ⟨bu, 2, none⟩ = some (.string s) from HO.out.cell 0 rfl 2 rfl)
  refine wp_region_B (by kernel_rfl) (by kernel_rfl) ?_
  iterate 2 (go_big_quiet_step (fail))
  go_big_quiet_step ((go_at_call 215 ; exact Calls.regrown_of (P9.out _)))
  iterate 5 (go_big_quiet_step (fail))
  refine wpQuiet_nil ?_
  intro x70 hbw
  have hO := HO.out.stay hbw
  replace HO := Lib.hid (show Own w none0 x70 [blkR bu (.cells #[.int .i64 fp, .int .i64 tp, .string s] 134), blkR br (.cells #[.string (a2 ++ a3), .string a6, .string a7, .string a1, .string (a4 ++ a5 ++ a1), .string a8, .string s] 9)] from hO)
  clear hO hbw g0_2
  go_wp2
  go_ret
  exact ⟨by rw [HQ.out]; rfl, HO.out.below⟩
theorem uEncode_r (fr to fp tp : Int) (s : ByteArray) (w : World) (f0 : 1 ≤ fr) (f1 : fr ≤ 4294967295) (t0 : 1 ≤ to) (t1 : to ≤ 4294967295) (p0 : 1 ≤ fp) (p1 : fp ≤ 65535) (p2 : 1 ≤ tp) (p3 : tp ≤ 65535) (hs : s.size ≤ 2000) :
    Calls Tryz.prog 213 #[.int .i64 fr, .int .i64 to, .agg (udA fp tp s)] w fun e w' => e = .returned (.tuple #[.string (encU fr to fp tp s), .int .i64 0]) ∧ Below w.heap.size w w' := by
  have HO := Lib.hid (Own.nil w none0)
  have HE := Lib.hid (fun w => uencode_r fr to fp tp s w f0 f1 t0 t1 p0 p1 p2 p3 hs)
  generalize encU fr to fp tp s = en at *
  clear f0 f1 t0 t1 p0 p1 p2 p3 hs
  have hmf : ∀ (fn : Fn) (first cap : Array Value) (w : World), (Instr.makeFunc fn first cap).run Tryz.prog w = .ok (.func fn first cap) w := fun _ _ _ _ => rfl
  obtain ⟨x1, hx1⟩ : ∃ y, w.alloc (.cells #[.int .i64 fp, .int .i64 tp, .string s] 134) = y := ⟨_, rfl⟩
  obtain ⟨bu, hbu⟩ : ∃ y, w.heap.size = y := ⟨_, rfl⟩
  have hO := HO.out.alloc (.cells #[.int .i64 fp, .int .i64 tp, .string s] 134)
  rw [hx1, hbu] at hO
  replace HO := Lib.hid (show Own w none0 x1 [blkR bu (.cells #[.int .i64 fp, .int .i64 tp, .string s] 134)] from hO)
  clear hO
  obtain ⟨x2, hx2⟩ : ∃ y, x1.alloc (.cells #[.string ⟨#[]⟩] 9) = y := ⟨_, rfl⟩
  obtain ⟨bs, hbs⟩ : ∃ y, x1.heap.size = y := ⟨_, rfl⟩
  have hO := HO.out.alloc (.cells #[.string ⟨#[]⟩] 9)
  rw [hx2, hbs] at hO
  replace HO := Lib.hid (show Own w none0 x2 [blkR bu (.cells #[.int .i64 fp, .int .i64 tp, .string s] 134), blkR bs (.cells #[.string ⟨#[]⟩] 9)] from hO)
  clear hO
  obtain ⟨x3, hx3⟩ : ∃ y, x2.alloc (.cells #[.int .i64 0] 33) = y := ⟨_, rfl⟩
  obtain ⟨be, hbe⟩ : ∃ y, x2.heap.size = y := ⟨_, rfl⟩
  have hO := HO.out.alloc (.cells #[.int .i64 0] 33)
  rw [hx3, hbe] at hO
  replace HO := Lib.hid (show Own w none0 x3 [blkR bu (.cells #[.int .i64 fp, .int .i64 tp, .string s] 134), blkR bs (.cells #[.string ⟨#[]⟩] 9), blkR be (.cells #[.int .i64 0] 33)] from hO)
  clear hO
  have z0_0 : x3.cell? ⟨bu, 0, none⟩ = some (.int .i64 fp) := HO.out.cell 0 rfl 0 rfl
  have z0_1 : x3.cell? ⟨bu, 1, none⟩ = some (.int .i64 tp) := HO.out.cell 0 rfl 1 rfl
  have z0_2 : x3.cell? ⟨bu, 2, none⟩ = some (.string s) := HO.out.cell 0 rfl 2 rfl
  have z1_0 : x3.cell? ⟨bs, 0, none⟩ = some (.string ⟨#[]⟩) := HO.out.cell 1 rfl 0 rfl
  have z2_0 : x3.cell? ⟨be, 0, none⟩ = some (.int .i64 0) := HO.out.cell 2 rfl 0 rfl
  go_enter_defers Tryz.func213, Tryz.ntmps213
  go_wp2_with fail
  refine (o_still HO.out (HE.out _)).mono ?_
  rintro e x4 ⟨rfl, hO, -⟩
  replace HO := Lib.hid (show Own w none0 x4 [blkR bu (.cells #[.int .i64 fp, .int .i64 tp, .string s] 134), blkR bs (.cells #[.string ⟨#[]⟩] 9), blkR be (.cells #[.int .i64 0] 33)] from hO)
  clear hO
  clear hx1 hbu hx2 hbs hx3 hbe z0_0 z0_1 z0_2 z1_0 z2_0
  have z1_0 : x4.cell? ⟨bs, 0, none⟩ = some (.string ⟨#[]⟩) := HO.out.cell 1 rfl 0 rfl
  have z2_0 : x4.cell? ⟨be, 0, none⟩ = some (.int .i64 0) := HO.out.cell 2 rfl 0 rfl
  have y1_0 : x4.frozen? ⟨bs, 0, none⟩ = false := HO.out.frz 1 rfl 0
  obtain ⟨x5, hx5⟩ : ∃ y, x4.setCell ⟨bs, 0, none⟩ (.string en) = y := ⟨_, rfl⟩
  have hO := HO.out.setCell 1 rfl 0 (.string en)
  rw [hx5] at hO
  replace HO := Lib.hid (show Own w none0 x5 [blkR bu (.cells #[.int .i64 fp, .int .i64 tp, .string s] 134), blkR bs (.cells #[.string en] 9), blkR be (.cells #[.int .i64 0] 33)] from hO)
  clear hO
  have z2_0t : x5.cell? ⟨be, 0, none⟩ = some (.int .i64 0) := HO.out.cell 2 rfl 0 rfl
  have y2_0 : x5.frozen? ⟨be, 0, none⟩ = false := HO.out.frz 2 rfl 0
  obtain ⟨x6, hx6⟩ : ∃ y, x5.setCell ⟨be, 0, none⟩ (.int .i64 0) = y := ⟨_, rfl⟩
  have hO := HO.out.setCell 2 rfl 0 (.int .i64 0)
  rw [hx6] at hO
  replace HO := Lib.hid (show Own w none0 x6 [blkR bu (.cells #[.int .i64 fp, .int .i64 tp, .string s] 134), blkR bs (.cells #[.string en] 9), blkR be (.cells #[.int .i64 0] 33)] from hO)
  clear hO
  go_wp2
  refine leaves_cons (f := 271) (args := #[.pointer (some ⟨bs, 0, none⟩), .pointer (some ⟨be, 0, none⟩)]) (by simp) (by simp [go_sem]) ?_
  refine (idleEncode _ _ _).mono ?_
  rintro e u' w'' ⟨rfl, rfl, rfl⟩
  have hc1 : w''.cell? ⟨bs, 0, none⟩ = some (.string en) := HO.out.cell 1 rfl 0 rfl
  have hc2 : w''.cell? ⟨be, 0, none⟩ = some (.int .i64 0) := HO.out.cell 2 rfl 0 rfl
  exact ⟨_, results_cc rfl _ _ _ (a1 := ⟨bs, 0, none⟩) (a2 := ⟨be, 0, none⟩) rfl rfl (by simp [go_sem, hc1]) (by simp [go_sem, hc2]), rfl, HO.out.below⟩
theorem infoUd : (Tryz.prog.info? 134).map (·.size) = some 3 := by kernel_rfl
theorem encU_sz (fr to fp tp : Int) (s : ByteArray) : (encU fr to fp tp s).size = 8 + s.size := by
  simp only [encU, hdU, ByteArray.size_append, bS_sz]
theorem encU_list (fr to fp tp : Int) (s : ByteArray) : (encU fr to fp tp s).data.toList = beN 2 fp ++ (beN 2 tp ++ (beN 2 (8 + (s.size : Int)) ++ (beN 2 (ckF (jnU fr to fp tp s)) ++ s.data.toList))) := by
  simp [encU, hdU, bS]
theorem encU_tail (fr to fp tp : Int) (s : ByteArray) : (encU fr to fp tp s).extract 8 (encU fr to fp tp s).size = s := by
  have h := encU_list fr to fp tp s
  have hz := encU_sz fr to fp tp s
  have e := ext_list (s := encU fr to fp tp s) (p := 8) (k := s.size)
  rw [← hz] at e
  rw [e, h]
  have h4 : (beN 2 fp ++ (beN 2 tp ++ (beN 2 (8 + (s.size : Int)) ++ (beN 2 (ckF (jnU fr to fp tp s)) ++ s.data.toList)))).drop 8 = s.data.toList := by
    rw [← List.append_assoc, ← List.append_assoc, ← List.append_assoc]
    exact List.drop_left' (by simp [beN_len])
  rw [h4, ← ba_len, List.take_length]
theorem ubeD_2 (n : Int) (h0 : 0 ≤ n) (h1 : n < 65536) : beD (beN 2 n) = n := by
  show beD [by8 n 1, by8 n 0] = n
  unfold beD
  simp only [List.foldl_cons, List.foldl_nil, by8_val]
  simp; omega
set_option maxRecDepth 100000 in
set_option maxHeartbeats 8000000 in
theorem udecode_r (fr to fp tp : Int) (s : ByteArray) (w : World) (f0 : 1 ≤ fr) (f1 : fr ≤ 4294967295) (t0 : 1 ≤ to) (t1 : to ≤ 4294967295) (p0 : 1 ≤ fp) (p1 : fp ≤ 65535) (p2 : 1 ≤ tp) (p3 : tp ≤ 65535) (hs : s.size ≤ 2000) :
    Calls Tryz.prog 84 #[.int .i64 fr, .int .i64 to, .string (encU fr to fp tp s)] w fun e w' => e = .returned (.agg (udA fp tp s)) ∧ Below w.heap.size w w' := by
  have HO := Lib.hid (Own.nil w none0)
  have HE := Lib.hid (fun w => uencode_r fr to fp tp s w f0 f1 t0 t1 p0 p1 p2 p3 hs)
  have hz := encU_sz fr to fp tp s
  have hl := encU_list fr to fp tp s
  have hm : (encU fr to fp tp s).size ≤ maxLen := by rw [hz]; unfold maxLen; omega
  have b1 : beD (((encU fr to fp tp s).data.toList.drop 0).take 2) = fp := by
    rw [hl, List.drop_zero, List.take_left' (by simp [beN_len])]
    exact ubeD_2 fp (by omega) (by omega)
  have b2 : beD (((encU fr to fp tp s).data.toList.drop 2).take 2) = tp := by
    rw [hl, List.drop_left' (by simp [beN_len]), List.take_left' (by simp [beN_len])]
    exact ubeD_2 tp (by omega) (by omega)
  have G1 := Lib.hid (fun w => uget_r (encU fr to fp tp s) 0 fp (fun w => by have h := get_2 (encU fr to fp tp s) 0 w (by omega) hm; rw [b1] at h; exact h) w)
  have G2 := Lib.hid (fun w => uget_r (encU fr to fp tp s) 2 tp (fun w => by have h := get_2 (encU fr to fp tp s) 2 w (by omega) hm; rw [b2] at h; exact h) w)
  have HT := Lib.hid (encU_tail fr to fp tp s)
  generalize encU fr to fp tp s = en at *
  have hle : (8 : Int) ≤ (en.size : Int) := by omega
  have d1 : decide ((en.size : Int) < 8) = false := decide_eq_false (by omega)
  clear hl b1 b2 hz hm f0 f1 t0 t1 p0 p1 p2 p3 hs
  obtain ⟨x1, hx1⟩ : ∃ y, w.alloc (.cells #[.int .i64 0, .int .i64 0, .string ⟨#[]⟩] 134) = y := ⟨_, rfl⟩
  obtain ⟨bd, hbd⟩ : ∃ y, w.heap.size = y := ⟨_, rfl⟩
  have hO := HO.out.alloc (.cells #[.int .i64 0, .int .i64 0, .string ⟨#[]⟩] 134)
  rw [hx1, hbd] at hO
  replace HO := Lib.hid (show Own w none0 x1 [blkR bd (.cells #[.int .i64 0, .int .i64 0, .string ⟨#[]⟩] 134)] from hO)
  clear hO
  have z0_0 : x1.cell? ⟨bd, 0, none⟩ = some (.int .i64 0) := HO.out.cell 0 rfl 0 rfl
  have z0_1 : x1.cell? ⟨bd, 1, none⟩ = some (.int .i64 0) := HO.out.cell 0 rfl 1 rfl
  have z0_2 : x1.cell? ⟨bd, 2, none⟩ = some (.string ⟨#[]⟩) := HO.out.cell 0 rfl 2 rfl
  go_enter Tryz.func84, Tryz.ntmps84
  go_wp2_with fail
  clear hx1 hbd z0_0 z0_1 z0_2
  refine wp_region_R 8 (by kernel_rfl) (by kernel_rfl) ?_
  simp only [List.take, List.drop]
  iterate 1 (first | (refine wpR_want (by kernel_rfl) rfl rfl ?_; intro K hK; go_big_quiet_op; go_big_quiet_on) | (refine wpR_is (by kernel_rfl) rfl _ (fun w _ => rfl) ?_; simp only [Act.put, List.setIfInBounds_toArray, List.set_cons_succ, List.set_cons_zero]))
  refine wpR_call (by kernel_rfl) rfl 158  #[.string en, .int .i64 0] (.int .i64 fp) (fun w => by simp [go_sem]) (fun w hb => G1.out w) ?_
  simp only [Act.put, List.setIfInBounds_toArray, List.set_cons_succ, List.set_cons_zero]
  iterate 1 (first | (refine wpR_want (by kernel_rfl) rfl rfl ?_; intro K hK; go_big_quiet_op; go_big_quiet_on) | (refine wpR_is (by kernel_rfl) rfl _ (fun w _ => rfl) ?_; simp only [Act.put, List.setIfInBounds_toArray, List.set_cons_succ, List.set_cons_zero]))
  refine wpR_call (by kernel_rfl) rfl 158  #[.string en, .int .i64 2] (.int .i64 tp) (fun w => by simp [go_sem]) (fun w hb => G2.out w) ?_
  simp only [Act.put, List.setIfInBounds_toArray, List.set_cons_succ, List.set_cons_zero]
  iterate 3 (first | (refine wpR_want (by kernel_rfl) rfl rfl ?_; intro K hK; go_big_quiet_op; go_big_quiet_on) | (refine wpR_is (by kernel_rfl) rfl _ (fun w _ => rfl) ?_; simp only [Act.put, List.setIfInBounds_toArray, List.set_cons_succ, List.set_cons_zero]))
  refine wpR_ex (nblk x1.heap.size (.cells #[.int .i64 0, .int .i64 0, .string ⟨#[]⟩] 134)) (nblk_lasts _ _) (by kernel_rfl) (fun a' w' hw' he => ?_) (fun d hd => ?_)
  · have hs := hw'.size
    simp [go_sem]
    exact ⟨_, rfl, (Below.refl _ _).alloc (Nat.le_refl _) _, ⟨w'.heap.size, rfl, hs, new_block _ _⟩⟩
  cases hd
  simp only [List.nil_append]
  refine wpR_nil (by kernel_rfl) (by simp) ?_
  rintro w5 hbw
  simp only [exAll]
  rintro u7 ⟨bu2, rfl, hgebu2, hbbbu2⟩
  simp only [Act.put, List.setIfInBounds_toArray, List.set_cons_succ, List.set_cons_zero, List.drop]
  have hO := HO.out.push (R := blkR bu2 (.cells #[.int .i64 0, .int .i64 0, .string ⟨#[]⟩] 134)) (F := fun z => z = bu2) ⟨fun _ => Iff.rfl, hbbbu2⟩ (fun z hz => hz ▸ hgebu2) hbw
  clear hgebu2 hbbbu2
  replace HO := Lib.hid (show Own w none0 w5 [blkR bd (.cells #[.int .i64 0, .int .i64 0, .string ⟨#[]⟩] 134), blkR bu2 (.cells #[.int .i64 0, .int .i64 0, .string ⟨#[]⟩] 134)] from hO)
  clear hO hbw  
  rw [HT.out]
  have z0_0 : w5.cell? ⟨bd, 0, none⟩ = some (.int .i64 0) := HO.out.cell 0 rfl 0 rfl
  have z0_1 : w5.cell? ⟨bd, 1, none⟩ = some (.int .i64 0) := HO.out.cell 0 rfl 1 rfl
  have z0_2 : w5.cell? ⟨bd, 2, none⟩ = some (.string ⟨#[]⟩) := HO.out.cell 0 rfl 2 rfl
  have k1_0_2 : w5.cell? ⟨bu2, 0, none⟩ = some (.int .i64 0) := HO.out.cell 1 rfl 0 rfl
  have lk1_0_2 : w5.frozen? ⟨bu2, 0, none⟩ = false := HO.out.frz 1 rfl 0
  have k1_1_3 : w5.cell? ⟨bu2, 1, none⟩ = some (.int .i64 0) := HO.out.cell 1 rfl 1 rfl
  have lk1_1_3 : w5.frozen? ⟨bu2, 1, none⟩ = false := HO.out.frz 1 rfl 1
  have k1_2_4 : w5.cell? ⟨bu2, 2, none⟩ = some (.string ⟨#[]⟩) := HO.out.cell 1 rfl 2 rfl
  have lk1_2_4 : w5.frozen? ⟨bu2, 2, none⟩ = false := HO.out.frz 1 rfl 2
  obtain ⟨x5, hx5⟩ : ∃ y, w5.setCell ⟨bu2, 0, none⟩ (.int .i64 fp) = y := ⟨_, rfl⟩
  have hO := HO.out.setCell 1 rfl 0 (.int .i64 fp)
  rw [hx5] at hO
  replace HO := Lib.hid (show Own w none0 x5 [blkR bd (.cells #[.int .i64 0, .int .i64 0, .string ⟨#[]⟩] 134), blkR bu2 (.cells #[.int .i64 fp, .int .i64 0, .string ⟨#[]⟩] 134)] from hO)
  clear hO
  have k1_1_6 : x5.cell? ⟨bu2, 1, none⟩ = some (.int .i64 0) := HO.out.cell 1 rfl 1 rfl
  have lk1_1_6 : x5.frozen? ⟨bu2, 1, none⟩ = false := HO.out.frz 1 rfl 1
  have k1_2_7 : x5.cell? ⟨bu2, 2, none⟩ = some (.string ⟨#[]⟩) := HO.out.cell 1 rfl 2 rfl
  have lk1_2_7 : x5.frozen? ⟨bu2, 2, none⟩ = false := HO.out.frz 1 rfl 2
  obtain ⟨x8, hx8⟩ : ∃ y, x5.setCell ⟨bu2, 1, none⟩ (.int .i64 tp) = y := ⟨_, rfl⟩
  have hO := HO.out.setCell 1 rfl 1 (.int .i64 tp)
  rw [hx8] at hO
  replace HO := Lib.hid (show Own w none0 x8 [blkR bd (.cells #[.int .i64 0, .int .i64 0, .string ⟨#[]⟩] 134), blkR bu2 (.cells #[.int .i64 fp, .int .i64 tp, .string ⟨#[]⟩] 134)] from hO)
  clear hO
  have k1_2_9 : x8.cell? ⟨bu2, 2, none⟩ = some (.string ⟨#[]⟩) := HO.out.cell 1 rfl 2 rfl
  have lk1_2_9 : x8.frozen? ⟨bu2, 2, none⟩ = false := HO.out.frz 1 rfl 2
  obtain ⟨x10, hx10⟩ : ∃ y, x8.setCell ⟨bu2, 2, none⟩ (.string s) = y := ⟨_, rfl⟩
  have hO := HO.out.setCell 1 rfl 2 (.string s)
  rw [hx10] at hO
  replace HO := Lib.hid (show Own w none0 x10 [blkR bd (.cells #[.int .i64 0, .int .i64 0, .string ⟨#[]⟩] 134), blkR bu2 (.cells #[.int .i64 fp, .int .i64 tp, .string s] 134)] from hO)
  clear hO
  have z1_0 : x10.cell? ⟨bu2, 0, none⟩ = some (.int .i64 fp) := HO.out.cell 1 rfl 0 rfl
  have z1_1 : x10.cell? ⟨bu2, 1, none⟩ = some (.int .i64 tp) := HO.out.cell 1 rfl 1 rfl
  have z1_2 : x10.cell? ⟨bu2, 2, none⟩ = some (.string s) := HO.out.cell 1 rfl 2 rfl
  go_wp2_with fail
  refine (o_still HO.out (HE.out _)).mono ?_
  rintro e x11 ⟨rfl, hO, -⟩
  replace HO := Lib.hid (show Own w none0 x11 [blkR bd (.cells #[.int .i64 0, .int .i64 0, .string ⟨#[]⟩] 134), blkR bu2 (.cells #[.int .i64 fp, .int .i64 tp, .string s] 134)] from hO)
  clear hO
  clear z0_0 z0_1 z0_2 k1_0_2 lk1_0_2 k1_1_3 lk1_1_3 k1_2_4 lk1_2_4 hx5 k1_1_6 lk1_1_6 k1_2_7 lk1_2_7 hx8 k1_2_9 lk1_2_9 hx10 z1_0 z1_1 z1_2
  have z1_0 : x11.cell? ⟨bu2, 0, none⟩ = some (.int .i64 fp) := HO.out.cell 1 rfl 0 rfl
  have z1_1 : x11.cell? ⟨bu2, 1, none⟩ = some (.int .i64 tp) := HO.out.cell 1 rfl 1 rfl
  have z1_2 : x11.cell? ⟨bu2, 2, none⟩ = some (.string s) := HO.out.cell 1 rfl 2 rfl
  have k0_0_12 : x11.cell? ⟨bd, 0, none⟩ = some (.int .i64 0) := HO.out.cell 0 rfl 0 rfl
  have lk0_0_12 : x11.frozen? ⟨bd, 0, none⟩ = false := HO.out.frz 0 rfl 0
  have k0_1_13 : x11.cell? ⟨bd, 1, none⟩ = some (.int .i64 0) := HO.out.cell 0 rfl 1 rfl
  have lk0_1_13 : x11.frozen? ⟨bd, 1, none⟩ = false := HO.out.frz 0 rfl 1
  have k0_2_14 : x11.cell? ⟨bd, 2, none⟩ = some (.string ⟨#[]⟩) := HO.out.cell 0 rfl 2 rfl
  have lk0_2_14 : x11.frozen? ⟨bd, 2, none⟩ = false := HO.out.frz 0 rfl 2
  obtain ⟨x15, hx15⟩ : ∃ y, x11.setCell ⟨bd, 0, none⟩ (.int .i64 fp) = y := ⟨_, rfl⟩
  have hO := HO.out.setCell 0 rfl 0 (.int .i64 fp)
  rw [hx15] at hO
  replace HO := Lib.hid (show Own w none0 x15 [blkR bd (.cells #[.int .i64 fp, .int .i64 0, .string ⟨#[]⟩] 134), blkR bu2 (.cells #[.int .i64 fp, .int .i64 tp, .string s] 134)] from hO)
  clear hO
  have k0_1_16 : x15.cell? ⟨bd, 1, none⟩ = some (.int .i64 0) := HO.out.cell 0 rfl 1 rfl
  have lk0_1_16 : x15.frozen? ⟨bd, 1, none⟩ = false := HO.out.frz 0 rfl 1
  have k0_2_17 : x15.cell? ⟨bd, 2, none⟩ = some (.string ⟨#[]⟩) := HO.out.cell 0 rfl 2 rfl
  have lk0_2_17 : x15.frozen? ⟨bd, 2, none⟩ = false := HO.out.frz 0 rfl 2
  obtain ⟨x18, hx18⟩ : ∃ y, x15.setCell ⟨bd, 1, none⟩ (.int .i64 tp) = y := ⟨_, rfl⟩
  have hO := HO.out.setCell 0 rfl 1 (.int .i64 tp)
  rw [hx18] at hO
  replace HO := Lib.hid (show Own w none0 x18 [blkR bd (.cells #[.int .i64 fp, .int .i64 tp, .string ⟨#[]⟩] 134), blkR bu2 (.cells #[.int .i64 fp, .int .i64 tp, .string s] 134)] from hO)
  clear hO
  have k0_2_19 : x18.cell? ⟨bd, 2, none⟩ = some (.string ⟨#[]⟩) := HO.out.cell 0 rfl 2 rfl
  have lk0_2_19 : x18.frozen? ⟨bd, 2, none⟩ = false := HO.out.frz 0 rfl 2
  obtain ⟨x20, hx20⟩ : ∃ y, x18.setCell ⟨bd, 2, none⟩ (.string s) = y := ⟨_, rfl⟩
  have hO := HO.out.setCell 0 rfl 2 (.string s)
  rw [hx20] at hO
  replace HO := Lib.hid (show Own w none0 x20 [blkR bd (.cells #[.int .i64 fp, .int .i64 tp, .string s] 134), blkR bu2 (.cells #[.int .i64 fp, .int .i64 tp, .string s] 134)] from hO)
  clear hO
  go_wp2
  exact bodyPost_ret (results_cell_row (P := Tryz.prog) rfl _ _ bd 134 _ _ _ rfl (HO.out.blk 0 rfl) Tryz.underlying134 rfl infoUd) rfl ⟨rfl, HO.out.below⟩
set_option maxRecDepth 100000 in
set_option maxHeartbeats 8000000 in
theorem uDecode_r (fr to fp tp : Int) (s : ByteArray) (w : World) (f0 : 1 ≤ fr) (f1 : fr ≤ 4294967295) (t0 : 1 ≤ to) (t1 : to ≤ 4294967295) (p0 : 1 ≤ fp) (p1 : fp ≤ 65535) (p2 : 1 ≤ tp) (p3 : tp ≤ 65535) (hs : s.size ≤ 2000) :
    Calls Tryz.prog 55 #[.int .i64 fr, .int .i64 to, .string (encU fr to fp tp s)] w fun e w' => e = .returned (.tuple #[.agg (udA fp tp s), .int .i64 0]) ∧ Below w.heap.size w w' := by
  have HO := Lib.hid (Own.nil w none0)
  have HE := Lib.hid (fun w => udecode_r fr to fp tp s w f0 f1 t0 t1 p0 p1 p2 p3 hs)
  generalize encU fr to fp tp s = en at *
  clear f0 f1 t0 t1 p0 p1 p2 p3 hs
  have hmf : ∀ (fn : Fn) (first cap : Array Value) (w : World), (Instr.makeFunc fn first cap).run Tryz.prog w = .ok (.func fn first cap) w := fun _ _ _ _ => rfl
  obtain ⟨x1, hx1⟩ : ∃ y, w.alloc (.cells #[.int .i64 0, .int .i64 0, .string ⟨#[]⟩] 134) = y := ⟨_, rfl⟩
  obtain ⟨bd, hbd⟩ : ∃ y, w.heap.size = y := ⟨_, rfl⟩
  have hO := HO.out.alloc (.cells #[.int .i64 0, .int .i64 0, .string ⟨#[]⟩] 134)
  rw [hx1, hbd] at hO
  replace HO := Lib.hid (show Own w none0 x1 [blkR bd (.cells #[.int .i64 0, .int .i64 0, .string ⟨#[]⟩] 134)] from hO)
  clear hO
  obtain ⟨x2, hx2⟩ : ∃ y, x1.alloc (.cells #[.int .i64 0] 33) = y := ⟨_, rfl⟩
  obtain ⟨be, hbe⟩ : ∃ y, x1.heap.size = y := ⟨_, rfl⟩
  have hO := HO.out.alloc (.cells #[.int .i64 0] 33)
  rw [hx2, hbe] at hO
  replace HO := Lib.hid (show Own w none0 x2 [blkR bd (.cells #[.int .i64 0, .int .i64 0, .string ⟨#[]⟩] 134), blkR be (.cells #[.int .i64 0] 33)] from hO)
  clear hO
  have z0_0 : x2.cell? ⟨bd, 0, none⟩ = some (.int .i64 0) := HO.out.cell 0 rfl 0 rfl
  have z0_1 : x2.cell? ⟨bd, 1, none⟩ = some (.int .i64 0) := HO.out.cell 0 rfl 1 rfl
  have z0_2 : x2.cell? ⟨bd, 2, none⟩ = some (.string ⟨#[]⟩) := HO.out.cell 0 rfl 2 rfl
  have z1_0 : x2.cell? ⟨be, 0, none⟩ = some (.int .i64 0) := HO.out.cell 1 rfl 0 rfl
  go_enter_defers Tryz.func55, Tryz.ntmps55
  go_wp2_with fail
  refine (o_still HO.out (HE.out _)).mono ?_
  rintro e x3 ⟨rfl, hO, -⟩
  replace HO := Lib.hid (show Own w none0 x3 [blkR bd (.cells #[.int .i64 0, .int .i64 0, .string ⟨#[]⟩] 134), blkR be (.cells #[.int .i64 0] 33)] from hO)
  clear hO
  clear hx1 hbd hx2 hbe z0_0 z0_1 z0_2 z1_0
  have k0_0_4 : x3.cell? ⟨bd, 0, none⟩ = some (.int .i64 0) := HO.out.cell 0 rfl 0 rfl
  have lk0_0_4 : x3.frozen? ⟨bd, 0, none⟩ = false := HO.out.frz 0 rfl 0
  have k0_1_5 : x3.cell? ⟨bd, 1, none⟩ = some (.int .i64 0) := HO.out.cell 0 rfl 1 rfl
  have lk0_1_5 : x3.frozen? ⟨bd, 1, none⟩ = false := HO.out.frz 0 rfl 1
  have k0_2_6 : x3.cell? ⟨bd, 2, none⟩ = some (.string ⟨#[]⟩) := HO.out.cell 0 rfl 2 rfl
  have lk0_2_6 : x3.frozen? ⟨bd, 2, none⟩ = false := HO.out.frz 0 rfl 2
  obtain ⟨x7, hx7⟩ : ∃ y, x3.setCell ⟨bd, 0, none⟩ (.int .i64 fp) = y := ⟨_, rfl⟩
  have hO := HO.out.setCell 0 rfl 0 (.int .i64 fp)
  rw [hx7] at hO
  replace HO := Lib.hid (show Own w none0 x7 [blkR bd (.cells #[.int .i64 fp, .int .i64 0, .string ⟨#[]⟩] 134), blkR be (.cells #[.int .i64 0] 33)] from hO)
  clear hO
  have k0_1_8 : x7.cell? ⟨bd, 1, none⟩ = some (.int .i64 0) := HO.out.cell 0 rfl 1 rfl
  have lk0_1_8 : x7.frozen? ⟨bd, 1, none⟩ = false := HO.out.frz 0 rfl 1
  have k0_2_9 : x7.cell? ⟨bd, 2, none⟩ = some (.string ⟨#[]⟩) := HO.out.cell 0 rfl 2 rfl
  have lk0_2_9 : x7.frozen? ⟨bd, 2, none⟩ = false := HO.out.frz 0 rfl 2
  obtain ⟨x10, hx10⟩ : ∃ y, x7.setCell ⟨bd, 1, none⟩ (.int .i64 tp) = y := ⟨_, rfl⟩
  have hO := HO.out.setCell 0 rfl 1 (.int .i64 tp)
  rw [hx10] at hO
  replace HO := Lib.hid (show Own w none0 x10 [blkR bd (.cells #[.int .i64 fp, .int .i64 tp, .string ⟨#[]⟩] 134), blkR be (.cells #[.int .i64 0] 33)] from hO)
  clear hO
  have k0_2_11 : x10.cell? ⟨bd, 2, none⟩ = some (.string ⟨#[]⟩) := HO.out.cell 0 rfl 2 rfl
  have lk0_2_11 : x10.frozen? ⟨bd, 2, none⟩ = false := HO.out.frz 0 rfl 2
  obtain ⟨x12, hx12⟩ : ∃ y, x10.setCell ⟨bd, 2, none⟩ (.string s) = y := ⟨_, rfl⟩
  have hO := HO.out.setCell 0 rfl 2 (.string s)
  rw [hx12] at hO
  replace HO := Lib.hid (show Own w none0 x12 [blkR bd (.cells #[.int .i64 fp, .int .i64 tp, .string s] 134), blkR be (.cells #[.int .i64 0] 33)] from hO)
  clear hO
  have z1_0 : x12.cell? ⟨be, 0, none⟩ = some (.int .i64 0) := HO.out.cell 1 rfl 0 rfl
  have y1_0 : x12.frozen? ⟨be, 0, none⟩ = false := HO.out.frz 1 rfl 0
  obtain ⟨x13, hx13⟩ : ∃ y, x12.setCell ⟨be, 0, none⟩ (.int .i64 0) = y := ⟨_, rfl⟩
  have hO := HO.out.setCell 1 rfl 0 (.int .i64 0)
  rw [hx13] at hO
  replace HO := Lib.hid (show Own w none0 x13 [blkR bd (.cells #[.int .i64 fp, .int .i64 tp, .string s] 134), blkR be (.cells #[.int .i64 0] 33)] from hO)
  clear hO
  go_wp2
  refine leaves_cons (f := 83) (args := #[.pointer (some ⟨bd, 0, none⟩), .pointer (some ⟨be, 0, none⟩)]) (by simp) (by simp [go_sem]) ?_
  refine (idleDecode _ _ _).mono ?_
  rintro e u' w'' ⟨rfl, rfl, rfl⟩
  have hce : w''.cell? ⟨be, 0, none⟩ = some (.int .i64 0) := HO.out.cell 1 rfl 0 rfl
  exact ⟨_, results_rc rfl _ _ _ bd 134 _ _ _ rfl (HO.out.blk 0 rfl) Tryz.underlying134 rfl infoUd (a2 := ⟨be, 0, none⟩) rfl (by simp [go_sem, hce]), rfl, HO.out.below⟩
end Go.Proofs.YtockaipodnapjaaGreatDoor
