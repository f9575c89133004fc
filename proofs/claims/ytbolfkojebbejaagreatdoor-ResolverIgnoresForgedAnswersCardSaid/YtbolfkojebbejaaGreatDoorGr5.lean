/- The laws of chapter 21: Answer and mutatedAnswer. Printed by wip/tools/gen21H.py. -/
import Derived.Test.YtbolfkojebbejaaGreatDoorLr3
import Derived.Test.YtbolfkojebbejaaGreatDoorBr
import Derived.Test.YtbolfkojebbejaaGreatDoorBs
set_option linter.unusedVariables false
set_option maxRecDepth 100000
set_option maxHeartbeats 32000000
namespace Go.Proofs.YtbolfkojebbejaaGreatDoor
open Go.RowKit Go.Sort
variable {s : ByteArray} {nm : ByteArray} {rs : List Rc}
attribute [local go_sem] Oper.semAt_some

theorem results_tmp_cell {fn : Func} {p q : Tmp} {ty : TypeId} (h : fn.results = #[.tmp p, .cell q ty]) (tmps : Array Value) (P : Program) (w : World) (g : Nat) (t : TypeId) (cs : Array Value) (fr : Nat × Nat) (d : TypeDesc)
  {u : Value} (hp : tmps.getD p undef = u) (hq : tmps.getD q undef = .pointer (some ⟨g, 0, none⟩)) (hg : w.heap[g]? = some (.cells cs t fr))
  (hu : P.underlying ty = some d) (hd : (match d with | .struct _ | .array _ _ => true | _ => false) = true) (hi : (P.info? ty).map (·.size) = some cs.size) :
  (results fn tmps).run P w = .ok (.tuple #[u, .agg cs]) w := by
 have hp' : tmps[p]?.getD undef = u := by simpa using hp
 have hq' : tmps[q]?.getD undef = .pointer (some ⟨g, 0, none⟩) := by simpa using hq
 simp only [results, h]
 simp [Result.andThen, hp', hq', asAddr, run_loadVar_row w g t ty cs fr d hg hu (by revert hd; cases d <;> exact id) hi]
theorem run_bdMa (id cd : Int) (nm : ByteArray) (w : World) : (Instr.build 86 #[(0, .int .i64 id), (1, .bool true), (2, .int .i64 cd), (3, .string nm), (4, .int .i64 1)]).run Tryz.prog w = .ok (.agg #[.int .i64 id, .bool true, .int .i64 cd, .string nm, .int .i64 1, .slice none 0 0]) w := by kernel_rfl
theorem run_bdMm (id : Int) (nm : ByteArray) (x : Option Addr) (n c : Nat) (w : World) : (Instr.build 86 #[(0, .int .i64 id), (1, .bool true), (3, .string nm), (4, .int .i64 1), (5, .slice x n c)]).run Tryz.prog w = .ok (.agg #[.int .i64 id, .bool true, .int .i64 0, .string nm, .int .i64 1, .slice x n c]) w := by kernel_rfl
def ansD (id cd : Int) (nm : ByteArray) (rs : List Rc) : Dm := ⟨id, true, cd, nm, 1, if cd = 0 then rs else []⟩
theorem ansD_ok {id cd : Int} (h0 : 0 ≤ id) (h1 : id ≤ 65535) (c0 : 0 ≤ cd) (c2 : cd ≤ 2) (hv : vname nm = true) (hl : rs.length ≤ 8) (hr : ∀ r ∈ rs, RcV r) : DmV (ansD id cd nm rs) := by
 refine ⟨⟨h0, h1⟩, ⟨c0, c2⟩, hv, .inl rfl, ?_, ?_, fun h => (by cases h)⟩
 ·
  show (if cd = 0 then rs else []).length ≤ 8
  split
  ·
   exact hl
  ·
   exact Nat.zero_le _
 ·
  intro r hr'
  have : r ∈ (if cd = 0 then rs else []) := hr'
  split at this
  ·
   exact hr r this
  ·
   cases this
theorem answer_r {gk m kc mi : Nat} {tk tr sv pt id wn : Int} {ra : Option Addr} {rn rc : Nat} {code cd : Int} (w : World) (hr : w.ownsRow 0 49 5 (.slice ra rn rc) rn (rs.flatMap cRc)) (hn : rs.length = rn) (hv : ∀ r ∈ rs, RcV r) (h8 : rn ≤ 8) (hc : w.cell? ⟨gk, mi, none⟩ = some (.string nm)) (hm : mi + 1 = m) (hml : m ≤ 100) (hnm : vname nm = true) (i0 : 0 ≤ id) (i1 : id ≤ 65535) (hcode : i64B code) (hcd : pk code 3 = cd) (hs : ⟨(encM (ansD id cd nm rs)).toArray⟩ = s) :
  Calls Tryz.prog 44 #[.agg #[.int .i64 tk, .slice (some ⟨gk, 0, none⟩) m kc, .int .i64 tr, .int .i64 sv, .int .i64 pt, .int .i64 id, .int .i64 wn], .int .i64 code, .slice ra rn rc] w fun e w' => e = .returned (.tuple #[.int .i64 sv, .agg #[.int .i64 53, .int .i64 pt, .string s]]) ∧ Below w.heap.size w w' := by
 have HO := Hi (Own.nil w none0)
 have HC := Hi hc
 have HM := Hi (And.intro hm hml)
 have hb3 := pk_bd code 3 (by decide)
 have HP := Hi (fun w => pick21_b code 3 w hcode (by decide))
 rw [hcd] at HP hb3
 have hd := ansD_ok i0 i1 hb3.1 (show cd ≤ 2 by omega) hnm (by rw [hn]; exact h8) hv
 have rb := run_bdMa id cd nm
 by_cases hz : cd = 0
 ·
  subst hz
  have hdd : ansD id 0 nm rs = ⟨id, true, 0, nm, 1, rs⟩ := rfl
  rw [hdd] at hd hs
  have HDG := Hi (fun (w' : World) (hb : Below w.heap.size w w') => datagram_r (port := pt) (cap := rc) w' (row_stayB hr hb) hn hd hs)
  clear hr hn hv h8 hc hm hml hnm i0 i1 hcode hcd hs hd hdd hb3
  obtain ⟨x1, hx1, bw, hbw, hO⟩ := HO.out.allocE (.cells #[.int .i64 tk, .slice (some ⟨gk, 0, none⟩) m kc, .int .i64 tr, .int .i64 sv, .int .i64 pt, .int .i64 id, .int .i64 wn] 101)
  replace HO := Hi (show Own w none0 x1 [blkR bw (.cells #[.int .i64 tk, .slice (some ⟨gk, 0, none⟩) m kc, .int .i64 tr, .int .i64 sv, .int .i64 pt, .int .i64 id, .int .i64 wn] 101)] from hO)
  clear hO
  obtain ⟨x2, hx2, b7, hb7, hO⟩ := HO.out.allocE (.cells #[.int .i64 0, .int .i64 0, .string ⟨#[]⟩] 56)
  replace HO := Hi (show Own _ _ _ [_, blkR b7 (.cells #[.int .i64 0, .int .i64 0, .string ⟨#[]⟩] 56)] from hO)
  clear hO
  go_enter Tryz.func44, Tryz.ntmps44
  go_wp2
  clear hx1 hbw hx2 hb7
  obtain ⟨-, g0_1, -, -, -, g0_5, -⟩ := HO.out.g7 0 rfl
  have gnm := cell_regrown (show x2.cell? ⟨gk, mi, none⟩ = some (.string nm) from keep HO.out.below HC.out)
  obtain ⟨hm1, hm2⟩ := HM.out
  have hm3 : (m : Int) - 1 = (mi : Int) := by omega
  have hm4 : (0 : Int) ≤ (mi : Int) := by omega
  have hm5 : (mi : Int) < (m : Int) := by omega
  refine wp_region_R 14 (by kernel_rfl) (by kernel_rfl) ?_
  simp only [List.take, List.drop]
  iterate 3 (first | (refine wpR_want (by kernel_rfl) rfl rfl ?_; intro K hK; go_big_quiet_op; go_big_quiet_on) | (refine wpR_is (by kernel_rfl) rfl _ (fun w _ => rfl) ?_; simp only [Act.put, l_T, l_S, l_Z]))
  refine wpR_call (by kernel_rfl) rfl 21 #[.int .i64 code, .int .i64 3] (.int .i64 0) (fun w => by simp [go_sem]) (fun w hb => HP.out w) ?_
  simp only [Act.put, l_T, l_S, l_Z]
  iterate 9 (first | (refine wpR_want (by kernel_rfl) rfl rfl ?_; intro K hK; go_big_quiet_op; go_big_quiet_on) | (refine wpR_is (by kernel_rfl) rfl _ (fun w _ => rfl) ?_; simp only [Act.put, l_T, l_S, l_Z]))
  refine wpR_ex (nblk x2.heap.size (.cells #[.int .i64 0, .bool false, .int .i64 0, .string ⟨#[]⟩, .int .i64 0, .slice none 0 0] 86)) (nblk_lasts _ _) (by kernel_rfl) (fun a' w' hw' he => ?_) (fun d hd => ?_)
  ·
   have hs := hw'.size
   simp [go_sem]
   exact ⟨_, rfl, (Below.refl _ _).alloc (Nat.le_refl _) _, ⟨w'.heap.size, rfl, hs, new_block _ _⟩⟩
  cases hd
  simp only [List.nil_append]
  refine wpR_nil (by kernel_rfl) (by simp) ?_
  rintro y1 hbw
  simp only [exAll]
  rintro u8 ⟨bd, rfl, hgebd, hbbbd⟩
  simp only [Act.put, l_T, l_S, l_Z, List.drop]
  have hO := HO.out.push (R := blkR bd (.cells #[.int .i64 0, .bool false, .int .i64 0, .string ⟨#[]⟩, .int .i64 0, .slice none 0 0] 86)) (F := fun z => z = bd) ⟨fun _ => Iff.rfl, hbbbd⟩ (fun z hz => hz ▸ hgebd) hbw
  clear hgebd hbbbd
  replace HO := Hi (show Own _ _ _ [_, _, blkR bd (.cells #[.int .i64 0, .bool false, .int .i64 0, .string ⟨#[]⟩, .int .i64 0, .slice none 0 0] 86)] from hO)
  clear hO hbw  g0_1 g0_5 gnm hm1 hm2 hm3 hm4 hm5
  obtain ⟨x9, x15, x20, x24, x27, x29, hx9, hx15, hx20, hx24, hx27, hx29, k2_0_3, lk2_0_3, k2_1_10, lk2_1_10, k2_2_16, lk2_2_16, k2_3_21, lk2_3_21, k2_4_25, lk2_4_25, k2_5_28, lk2_5_28, hO⟩ := HO.out.steps6 2 rfl (.int .i64 id) (.bool true) (.int .i64 0) (.string nm) (.int .i64 1) (.slice none 0 0)
  replace HO := Hi (show Own _ _ _ [_, _, blkR bd (.cells #[.int .i64 id, .bool true, .int .i64 0, .string nm, .int .i64 1, .slice none 0 0] 86)] from hO)
  clear hO
  have z2_2 : x29.cell? _ = some (.int .i64 0) := HO.out.cell 2 rfl 2 rfl
  have ⟨z2_5, y2_5⟩ : x29.cell? _ = some (.slice none 0 0) ∧ _ := HO.out.cf 2 rfl 5 rfl
  obtain ⟨x30, hx30, hO⟩ := HO.out.setE 2 rfl 5 (.slice ra rn rc)
  replace HO := Hi (show Own _ _ _ [_, _, blkR bd (.cells #[.int .i64 id, .bool true, .int .i64 0, .string nm, .int .i64 1, .slice ra rn rc] 86)] from hO)
  clear hO
  go_wp2
  clear k2_0_3 lk2_0_3 hx9 k2_1_10 lk2_1_10 hx15 k2_2_16 lk2_2_16 hx20 k2_3_21 lk2_3_21 hx24 k2_4_25 lk2_4_25 hx27 k2_5_28 lk2_5_28 hx29 z2_2 z2_5 y2_5 hx30
  obtain ⟨-, -, -, g0_3, g0_4, -, -⟩ := HO.out.g7 0 rfl
  obtain ⟨g2_0, g2_1, g2_2, g2_3, g2_4, g2_5⟩ := HO.out.g6 2 rfl
  refine wp_region_R 7 (by kernel_rfl) (by kernel_rfl) ?_
  simp only [List.take, List.drop]
  iterate 5 (first | (refine wpR_want (by kernel_rfl) rfl rfl ?_; intro K hK; go_big_quiet_op; go_big_quiet_on) | (refine wpR_is (by kernel_rfl) rfl _ (fun w _ => rfl) ?_; simp only [Act.put, l_T, l_S, l_Z]))
  refine wpR_call (by kernel_rfl) rfl 63 #[.int .i64 pt, .agg #[.int .i64 id, .bool true, .int .i64 0, .string nm, .int .i64 1, .slice ra rn rc]] (.agg #[.int .i64 53, .int .i64 pt, .string s]) (fun w => by simp [go_sem]) (fun w hb => HDG.out _ (below_mid HO.out.below hb)) ?_
  simp only [Act.put, l_T, l_S, l_Z]
  iterate 1 (first | (refine wpR_want (by kernel_rfl) rfl rfl ?_; intro K hK; go_big_quiet_op; go_big_quiet_on) | (refine wpR_is (by kernel_rfl) rfl _ (fun w _ => rfl) ?_; simp only [Act.put, l_T, l_S, l_Z]))
  refine wpR_nil (by kernel_rfl) (by simp) ?_
  rintro y2 hbw
  simp only [exAll]
  simp only [List.drop]
  have hO := HO.out.stay hbw
  replace HO := Hi hO
  clear hO hbw  g0_3 g0_4 g2_0 g2_1 g2_2 g2_3 g2_4 g2_5
  obtain ⟨x34, x37, x39, hx34, hx37, hx39, k1_0_31, lk1_0_31, k1_1_35, lk1_1_35, k1_2_38, lk1_2_38, hO⟩ := HO.out.steps3 1 rfl (.int .i64 53) (.int .i64 pt) (.string s)
  replace HO := Hi (show Own _ _ _ [_, blkR b7 (.cells #[.int .i64 53, .int .i64 pt, .string s] 56), _] from hO)
  clear hO
  go_wp2
  refine bodyPost_ret (results_tmp_cell rfl _ _ _ b7 56 _ _ _ rfl rfl (HO.out.blk 1 rfl) Tryz.underlying56 rfl infoUd) rfl ?_
  exact ⟨rfl, HO.out.below⟩
 ·
  have hdd : ansD id cd nm rs = ⟨id, true, cd, nm, 1, []⟩ := by unfold ansD; rw [if_neg hz]
  have c1 : (cd == 0) = false := beq_eq_false_iff_ne.2 hz
  have c2 : decide (cd = 0) = false := decide_eq_false hz
  rw [hdd] at hd hs
  have HDG := Hi (fun (w' : World) (hb : Below w.heap.size w w') => datagram_r (port := pt) (a := none) (cap := 0) (n := 0) w' (((Own.nil w' none0).rowNew 49 5).row 0 rfl) rfl hd hs)
  clear hr hn hv h8 hc hm hml hnm i0 i1 hcode hcd hs hd hdd hb3
  obtain ⟨x1, hx1, bw, hbw, hO⟩ := HO.out.allocE (.cells #[.int .i64 tk, .slice (some ⟨gk, 0, none⟩) m kc, .int .i64 tr, .int .i64 sv, .int .i64 pt, .int .i64 id, .int .i64 wn] 101)
  replace HO := Hi (show Own w none0 x1 [blkR bw (.cells #[.int .i64 tk, .slice (some ⟨gk, 0, none⟩) m kc, .int .i64 tr, .int .i64 sv, .int .i64 pt, .int .i64 id, .int .i64 wn] 101)] from hO)
  clear hO
  obtain ⟨x2, hx2, b7, hb7, hO⟩ := HO.out.allocE (.cells #[.int .i64 0, .int .i64 0, .string ⟨#[]⟩] 56)
  replace HO := Hi (show Own _ _ _ [_, blkR b7 (.cells #[.int .i64 0, .int .i64 0, .string ⟨#[]⟩] 56)] from hO)
  clear hO
  go_enter Tryz.func44, Tryz.ntmps44
  go_wp2
  clear hx1 hbw hx2 hb7
  obtain ⟨-, g0_1, -, -, -, g0_5, -⟩ := HO.out.g7 0 rfl
  have gnm := cell_regrown (show x2.cell? ⟨gk, mi, none⟩ = some (.string nm) from keep HO.out.below HC.out)
  obtain ⟨hm1, hm2⟩ := HM.out
  have hm3 : (m : Int) - 1 = (mi : Int) := by omega
  have hm4 : (0 : Int) ≤ (mi : Int) := by omega
  have hm5 : (mi : Int) < (m : Int) := by omega
  refine wp_region_R 14 (by kernel_rfl) (by kernel_rfl) ?_
  simp only [List.take, List.drop]
  iterate 3 (first | (refine wpR_want (by kernel_rfl) rfl rfl ?_; intro K hK; go_big_quiet_op; go_big_quiet_on) | (refine wpR_is (by kernel_rfl) rfl _ (fun w _ => rfl) ?_; simp only [Act.put, l_T, l_S, l_Z]))
  refine wpR_call (by kernel_rfl) rfl 21 #[.int .i64 code, .int .i64 3] (.int .i64 cd) (fun w => by simp [go_sem]) (fun w hb => HP.out w) ?_
  simp only [Act.put, l_T, l_S, l_Z]
  iterate 9 (first | (refine wpR_want (by kernel_rfl) rfl rfl ?_; intro K hK; go_big_quiet_op; go_big_quiet_on) | (refine wpR_is (by kernel_rfl) rfl _ (fun w _ => rfl) ?_; simp only [Act.put, l_T, l_S, l_Z]))
  refine wpR_ex (nblk x2.heap.size (.cells #[.int .i64 0, .bool false, .int .i64 0, .string ⟨#[]⟩, .int .i64 0, .slice none 0 0] 86)) (nblk_lasts _ _) (by kernel_rfl) (fun a' w' hw' he => ?_) (fun d hd => ?_)
  ·
   have hs := hw'.size
   simp [go_sem]
   exact ⟨_, rfl, (Below.refl _ _).alloc (Nat.le_refl _) _, ⟨w'.heap.size, rfl, hs, new_block _ _⟩⟩
  cases hd
  simp only [List.nil_append]
  refine wpR_nil (by kernel_rfl) (by simp) ?_
  rintro y1 hbw
  simp only [exAll]
  rintro u8 ⟨bd, rfl, hgebd, hbbbd⟩
  simp only [Act.put, l_T, l_S, l_Z, List.drop]
  have hO := HO.out.push (R := blkR bd (.cells #[.int .i64 0, .bool false, .int .i64 0, .string ⟨#[]⟩, .int .i64 0, .slice none 0 0] 86)) (F := fun z => z = bd) ⟨fun _ => Iff.rfl, hbbbd⟩ (fun z hz => hz ▸ hgebd) hbw
  clear hgebd hbbbd
  replace HO := Hi (show Own _ _ _ [_, _, blkR bd (.cells #[.int .i64 0, .bool false, .int .i64 0, .string ⟨#[]⟩, .int .i64 0, .slice none 0 0] 86)] from hO)
  clear hO hbw  g0_1 g0_5 gnm hm1 hm2 hm3 hm4 hm5
  obtain ⟨x9, x15, x20, x24, x27, x29, hx9, hx15, hx20, hx24, hx27, hx29, k2_0_3, lk2_0_3, k2_1_10, lk2_1_10, k2_2_16, lk2_2_16, k2_3_21, lk2_3_21, k2_4_25, lk2_4_25, k2_5_28, lk2_5_28, hO⟩ := HO.out.steps6 2 rfl (.int .i64 id) (.bool true) (.int .i64 cd) (.string nm) (.int .i64 1) (.slice none 0 0)
  replace HO := Hi (show Own _ _ _ [_, _, blkR bd (.cells #[.int .i64 id, .bool true, .int .i64 cd, .string nm, .int .i64 1, .slice none 0 0] 86)] from hO)
  clear hO
  have z2_2 : x29.cell? _ = some (.int .i64 cd) := HO.out.cell 2 rfl 2 rfl
  go_wp2
  clear k2_0_3 lk2_0_3 hx9 k2_1_10 lk2_1_10 hx15 k2_2_16 lk2_2_16 hx20 k2_3_21 lk2_3_21 hx24 k2_4_25 lk2_4_25 hx27 k2_5_28 lk2_5_28 hx29 z2_2
  obtain ⟨-, -, -, g0_3, g0_4, -, -⟩ := HO.out.g7 0 rfl
  obtain ⟨g2_0, g2_1, g2_2, g2_3, g2_4, g2_5⟩ := HO.out.g6 2 rfl
  refine wp_region_R 7 (by kernel_rfl) (by kernel_rfl) ?_
  simp only [List.take, List.drop]
  iterate 5 (first | (refine wpR_want (by kernel_rfl) rfl rfl ?_; intro K hK; go_big_quiet_op; go_big_quiet_on) | (refine wpR_is (by kernel_rfl) rfl _ (fun w _ => rfl) ?_; simp only [Act.put, l_T, l_S, l_Z]))
  refine wpR_call (by kernel_rfl) rfl 63 #[.int .i64 pt, .agg #[.int .i64 id, .bool true, .int .i64 cd, .string nm, .int .i64 1, .slice none 0 0]] (.agg #[.int .i64 53, .int .i64 pt, .string s]) (fun w => by simp [go_sem]) (fun w hb => HDG.out _ (below_mid HO.out.below hb)) ?_
  simp only [Act.put, l_T, l_S, l_Z]
  iterate 1 (first | (refine wpR_want (by kernel_rfl) rfl rfl ?_; intro K hK; go_big_quiet_op; go_big_quiet_on) | (refine wpR_is (by kernel_rfl) rfl _ (fun w _ => rfl) ?_; simp only [Act.put, l_T, l_S, l_Z]))
  refine wpR_nil (by kernel_rfl) (by simp) ?_
  rintro y2 hbw
  simp only [exAll]
  simp only [List.drop]
  have hO := HO.out.stay hbw
  replace HO := Hi hO
  clear hO hbw  g0_3 g0_4 g2_0 g2_1 g2_2 g2_3 g2_4 g2_5
  obtain ⟨x33, x36, x38, hx33, hx36, hx38, k1_0_30, lk1_0_30, k1_1_34, lk1_1_34, k1_2_37, lk1_2_37, hO⟩ := HO.out.steps3 1 rfl (.int .i64 53) (.int .i64 pt) (.string s)
  replace HO := Hi (show Own _ _ _ [_, blkR b7 (.cells #[.int .i64 53, .int .i64 pt, .string s] 56), _] from hO)
  clear hO
  go_wp2
  refine bodyPost_ret (results_tmp_cell rfl _ _ _ b7 56 _ _ _ rfl rfl (HO.out.blk 1 rfl) Tryz.underlying56 rfl infoUd) rfl ?_
  exact ⟨rfl, HO.out.below⟩
def mutF (sv n : Int) (k : Int) : Int := if k = 0 then sv + 1 + pk n 50 else sv
def mutP (pt n : Int) (k : Int) : Int := if k = 1 then 20000 + (pt - 20000 + 1 + pk n 9998) % 10000 else pt
def mutO (n : Int) (k : Int) : Int := if k = 5 then 54 + pk n 1000 else 53
def othN (nm : ByteArray) : ByteArray := ⟨#[111, 116, 104, 101, 114, 46]⟩ ++ nm
def mutD (id n : Int) (nm : ByteArray) (rs : List Rc) (k : Int) : Dm :=
 if k = 2 then ⟨(id + 1 + pk n 65535) % 65536, true, 0, nm, 1, rs⟩ else if k = 3 then ⟨id, true, 0, othN nm, 1, rs⟩ else if k = 4 then ⟨id, false, 0, nm, 1, []⟩ else ⟨id, true, 0, nm, 1, rs⟩
theorem mutD_ok {id n : Int} {k : Int} (h0 : 0 ≤ id) (h1 : id ≤ 65535) (hv : vname nm = true) (ho : vname (othN nm) = true) (hl : rs.length ≤ 8) (hr : ∀ r ∈ rs, RcV r) : DmV (mutD id n nm rs k) := by
 have hb := pk_bd n 65535 (by decide)
 unfold mutD
 split
 ·
  exact ⟨⟨by show 0 ≤ (id + 1 + pk n 65535) % 65536; omega, by show (id + 1 + pk n 65535) % 65536 ≤ 65535; omega⟩, ⟨by show (0 : Int) ≤ 0; decide, by show (0 : Int) ≤ 2; decide⟩, hv, .inl rfl, hl, hr, fun h => (by cases h)⟩
 ·
  split
  ·
   exact ⟨⟨h0, h1⟩, ⟨by show (0 : Int) ≤ 0; decide, by show (0 : Int) ≤ 2; decide⟩, ho, .inl rfl, hl, hr, fun h => (by cases h)⟩
  ·
   split
   ·
    exact ⟨⟨h0, h1⟩, ⟨by show (0 : Int) ≤ 0; decide, by show (0 : Int) ≤ 2; decide⟩, hv, .inl rfl, Nat.zero_le _, (fun r hr => by cases hr), fun _ => ⟨rfl, rfl⟩⟩
   ·
    exact ⟨⟨h0, h1⟩, ⟨by show (0 : Int) ≤ 0; decide, by show (0 : Int) ≤ 2; decide⟩, hv, .inl rfl, hl, hr, fun h => (by cases h)⟩
theorem mut_r {gk m kc mi : Nat} {tk tr sv pt id wn : Int} {ra : Option Addr} {rn rc : Nat} {which n k : Int} (w : World) (hr : w.ownsRow 0 49 5 (.slice ra rn rc) rn (rs.flatMap cRc)) (hn : rs.length = rn) (hv : ∀ r ∈ rs, RcV r) (h8 : rn ≤ 8) (hc : w.cell? ⟨gk, mi, none⟩ = some (.string nm)) (hm : mi + 1 = m) (hml : m ≤ 100) (hnm : vname nm = true) (hoth : vname (othN nm) = true) (i0 : 0 ≤ id) (i1 : id ≤ 65535) (p0 : 20000 ≤ pt) (p1 : pt < 30000) (s0 : 0 ≤ sv) (s1 : sv ≤ 4294967295) (hwh : i64B which) (hn6 : i64B n) (hk : pk which 6 = k) (hs : ⟨(encM (mutD id n nm rs k)).toArray⟩ = s) :
  Calls Tryz.prog 43 #[.agg #[.int .i64 tk, .slice (some ⟨gk, 0, none⟩) m kc, .int .i64 tr, .int .i64 sv, .int .i64 pt, .int .i64 id, .int .i64 wn], .int .i64 which, .int .i64 n, .slice ra rn rc] w fun e w' => e = .returned (.tuple #[.int .i64 (mutF sv n k), .agg #[.int .i64 (mutO n k), .int .i64 (mutP pt n k), .string s]]) ∧ Below w.heap.size w w' := by
 have HO := Hi (Own.nil w none0)
 have HC := Hi hc
 have HM := Hi (And.intro hm hml)
 have hb6 := pk_bd which 6 (by decide)
 have HP := Hi (fun w => pick21_b which 6 w hwh (by decide))
 have HPN := Hi (fun (q : Int) (h0 : 0 < q) w => pick21_b n q w hn6 h0)
 have HPB := Hi (fun (q : Int) (h0 : 0 < q) => pk_bd n q h0)
 have HSZ := Hi (vname_sz hnm)
 rw [hk] at HP hb6
 have hd := mutD_ok (n := n) (k := k) i0 i1 hnm hoth (by rw [hn]; exact h8) hv
 have rb := run_bdMm id nm ra rn rc
 have h6 : k = 0 ∨ k = 1 ∨ k = 2 ∨ k = 3 ∨ k = 4 ∨ k = 5 := by omega
 obtain ⟨F1, hF1⟩ : ∃ y, mutF sv n k = y := ⟨_, rfl⟩
 obtain ⟨T1, hT1⟩ : ∃ y, mutP pt n k = y := ⟨_, rfl⟩
 obtain ⟨U1, hU1⟩ : ∃ y, mutO n k = y := ⟨_, rfl⟩
 rw [hF1, hT1, hU1]
 have HFF := Hi (And.intro hF1 (And.intro hT1 hU1))
 clear hF1 hT1 hU1
 have HD := Hi hd
 have HS2 := Hi hs
 have HRW := Hi hr
 have HRN := Hi hn
 have HPT := Hi (And.intro (And.intro p0 p1) (And.intro s0 s1))
 clear hr hn hv h8 hc hm hml hnm hoth hwh hn6 hs hd hb6 hk
 obtain ⟨x1, hx1, bw, hbw, hO⟩ := HO.out.allocE (.cells #[.int .i64 tk, .slice (some ⟨gk, 0, none⟩) m kc, .int .i64 tr, .int .i64 sv, .int .i64 pt, .int .i64 id, .int .i64 wn] 101)
 replace HO := Hi (show Own w none0 x1 [blkR bw (.cells #[.int .i64 tk, .slice (some ⟨gk, 0, none⟩) m kc, .int .i64 tr, .int .i64 sv, .int .i64 pt, .int .i64 id, .int .i64 wn] 101)] from hO)
 clear hO
 obtain ⟨x2, hx2, b9, hb9, hO⟩ := HO.out.allocE (.cells #[.int .i64 0, .int .i64 0, .string ⟨#[]⟩] 56)
 replace HO := Hi (show Own _ _ _ [_, blkR b9 (.cells #[.int .i64 0, .int .i64 0, .string ⟨#[]⟩] 56)] from hO)
 clear hO
 go_enter Tryz.func43, Tryz.ntmps43
 go_wp2
 clear hx1 hbw hx2 hb9
 obtain ⟨-, g0_1, -, -, -, g0_5, -⟩ := HO.out.g7 0 rfl
 have gnm := cell_regrown (show x2.cell? ⟨gk, mi, none⟩ = some (.string nm) from keep HO.out.below HC.out)
 obtain ⟨hm1, hm2⟩ := HM.out
 have hm3 : (m : Int) - 1 = (mi : Int) := by omega
 have hm4 : (0 : Int) ≤ (mi : Int) := by omega
 have hm5 : (mi : Int) < (m : Int) := by omega
 refine wp_region_R 13 (by kernel_rfl) (by kernel_rfl) ?_
 simp only [List.take, List.drop]
 iterate 12 (first | (refine wpR_want (by kernel_rfl) rfl rfl ?_; intro K hK; go_big_quiet_op; go_big_quiet_on) | (refine wpR_is (by kernel_rfl) rfl _ (fun w _ => rfl) ?_; simp only [Act.put, l_T, l_S, l_Z]))
 refine wpR_ex (nblk x2.heap.size (.cells #[.int .i64 0, .bool false, .int .i64 0, .string ⟨#[]⟩, .int .i64 0, .slice none 0 0] 86)) (nblk_lasts _ _) (by kernel_rfl) (fun a' w' hw' he => ?_) (fun d hd => ?_)
 ·
  have hs := hw'.size
  simp [go_sem]
  exact ⟨_, rfl, (Below.refl _ _).alloc (Nat.le_refl _) _, ⟨w'.heap.size, rfl, hs, new_block _ _⟩⟩
 cases hd
 simp only [List.nil_append]
 refine wpR_nil (by kernel_rfl) (by simp) ?_
 rintro y1 hbw
 simp only [exAll]
 rintro u10 ⟨bd, rfl, hgebd, hbbbd⟩
 simp only [Act.put, l_T, l_S, l_Z, List.drop]
 have hO := HO.out.push (R := blkR bd (.cells #[.int .i64 0, .bool false, .int .i64 0, .string ⟨#[]⟩, .int .i64 0, .slice none 0 0] 86)) (F := fun z => z = bd) ⟨fun _ => Iff.rfl, hbbbd⟩ (fun z hz => hz ▸ hgebd) hbw
 clear hgebd hbbbd
 replace HO := Hi (show Own _ _ _ [_, _, blkR bd (.cells #[.int .i64 0, .bool false, .int .i64 0, .string ⟨#[]⟩, .int .i64 0, .slice none 0 0] 86)] from hO)
 clear hO hbw  g0_5 g0_1 gnm hm1 hm2 hm3 hm4 hm5
 obtain ⟨x9, x15, x20, x24, x27, x29, hx9, hx15, hx20, hx24, hx27, hx29, k2_0_3, lk2_0_3, k2_1_10, lk2_1_10, k2_2_16, lk2_2_16, k2_3_21, lk2_3_21, k2_4_25, lk2_4_25, k2_5_28, lk2_5_28, hO⟩ := HO.out.steps6 2 rfl (.int .i64 id) (.bool true) (.int .i64 0) (.string nm) (.int .i64 1) (.slice ra rn rc)
 replace HO := Hi (show Own _ _ _ [_, _, blkR bd (.cells #[.int .i64 id, .bool true, .int .i64 0, .string nm, .int .i64 1, .slice ra rn rc] 86)] from hO)
 clear hO
 obtain ⟨-, -, -, z0_3, z0_4, -, -⟩ := HO.out.c7 0 rfl
 go_wp2_with fail
 refine (o_still HO.out (HP.out _)).mono ?_
 rintro e x50 ⟨rfl, hO, -⟩
 replace HO := Hi hO
 clear hO
 clear k2_0_3 lk2_0_3 hx9 k2_1_10 lk2_1_10 hx15 k2_2_16 lk2_2_16 hx20 k2_3_21 lk2_3_21 hx24 k2_4_25 lk2_4_25 hx27 k2_5_28 lk2_5_28 hx29 z0_3 z0_4
 rcases h6 with rfl | rfl | rfl | rfl | rfl | rfl
 ·
  have hdd : mutD id n nm rs 0 = ⟨id, true, 0, nm, 1, rs⟩ := by unfold mutD; simp
  have hF : mutF sv n 0 = sv + 1 + pk n 50 := by unfold mutF; simp
  have hT : mutP pt n 0 = pt := by unfold mutP; simp
  have hU : mutO n 0 = 53 := by unfold mutO; simp
  have hd := HD.out
  have hs := HS2.out
  rw [hdd] at hd hs
  obtain ⟨e1, e2, e3⟩ := HFF.out
  rw [hF] at e1
  rw [hT] at e2
  rw [hU] at e3
  subst e1 e2 e3
  obtain ⟨⟨p0, p1⟩, s0, s1⟩ := HPT.out
  have HQ := Hi (HPN.out 50 (by decide))
  have hqb := HPB.out 50 (by decide)
  generalize hqq : pk n 50 = q at *
  have HQQ := Hi hqq
  clear hqq
  obtain ⟨q0, q1⟩ := hqb
  have HDG := Hi (fun (w' : World) (hb : Below w.heap.size w w') => datagram_r (port := pt) (cap := rc) w' (row_stayB HRW.out hb) HRN.out hd hs)
  clear hs hd hdd hF hT hU HD HS2 HRW HRN HPT HFF
  go_wp2_with fail
  refine (o_still HO.out (HQ.out _)).mono ?_
  rintro e x61 ⟨rfl, hO, -⟩
  replace HO := Hi hO
  clear hO
  obtain ⟨z2_0, z2_1, z2_2, z2_3, z2_4, z2_5⟩ := HO.out.c6 2 rfl
  go_wp2_with fail
  refine (o_still HO.out (HDG.out _ HO.out.below)).mono ?_
  rintro e x60 ⟨rfl, hO, -⟩
  replace HO := Hi hO
  clear hO
  clear z2_0 z2_1 z2_2 z2_3 z2_4 z2_5
  obtain ⟨x62, hx62, bu, hbu, hO⟩ := HO.out.allocE (.cells #[.int .i64 0, .int .i64 0, .string ⟨#[]⟩] 56)
  replace HO := Hi (show Own _ _ _ [_, _, _, blkR bu (.cells #[.int .i64 0, .int .i64 0, .string ⟨#[]⟩] 56)] from hO)
  clear hO
  obtain ⟨x66, x69, x71, hx66, hx69, hx71, k3_0_63, lk3_0_63, k3_1_67, lk3_1_67, k3_2_70, lk3_2_70, hO⟩ := HO.out.steps3 3 rfl (.int .i64 53) (.int .i64 pt) (.string s)
  replace HO := Hi (show Own _ _ _ [_, _, _, blkR bu (.cells #[.int .i64 53, .int .i64 pt, .string s] 56)] from hO)
  clear hO
  have ⟨z3_0, y3_0⟩ : x71.cell? _ = some (.int .i64 53) ∧ _ := HO.out.cf 3 rfl 0 rfl
  obtain ⟨x72, hx72, hO⟩ := HO.out.setE 3 rfl 0 (.int .i64 53)
  replace HO := Hi hO
  clear hO
  go_wp2
  clear hx62 hbu k3_0_63 lk3_0_63 hx66 k3_1_67 lk3_1_67 hx69 k3_2_70 lk3_2_70 hx71 z3_0 y3_0 hx72
  obtain ⟨g3_0, g3_1, g3_2⟩ := HO.out.g3 3 rfl
  refine wp_region_R 3 (by kernel_rfl) (by kernel_rfl) ?_
  simp only [List.take, List.drop]
  iterate 3 (first | (refine wpR_want (by kernel_rfl) rfl rfl ?_; intro K hK; go_big_quiet_op; go_big_quiet_on) | (refine wpR_is (by kernel_rfl) rfl _ (fun w _ => rfl) ?_; simp only [Act.put, l_T, l_S, l_Z]))
  refine wpR_nil (by kernel_rfl) (by simp) ?_
  rintro y7 hbw
  simp only [exAll]
  simp only [List.drop]
  have hO := HO.out.stay hbw
  replace HO := Hi hO
  clear hO hbw  g3_0 g3_1 g3_2
  obtain ⟨x76, x79, x81, hx76, hx79, hx81, k1_0_73, lk1_0_73, k1_1_77, lk1_1_77, k1_2_80, lk1_2_80, hO⟩ := HO.out.steps3 1 rfl (.int .i64 53) (.int .i64 pt) (.string s)
  replace HO := Hi (show Own _ _ _ [_, blkR b9 (.cells #[.int .i64 53, .int .i64 pt, .string s] 56), _, _] from hO)
  clear hO
  go_wp2
  refine bodyPost_ret (results_tmp_cell rfl _ _ _ b9 56 _ _ _ rfl rfl (HO.out.blk 1 rfl) Tryz.underlying56 rfl infoUd) rfl ?_
  exact ⟨by rw [← HQQ.out]; rfl, HO.out.below⟩
 ·
  have hdd : mutD id n nm rs 1 = ⟨id, true, 0, nm, 1, rs⟩ := by unfold mutD; simp
  have hF : mutF sv n 1 = sv := by unfold mutF; simp
  have hT : mutP pt n 1 = 20000 + (pt - 20000 + 1 + pk n 9998) % 10000 := by unfold mutP; simp
  have hU : mutO n 1 = 53 := by unfold mutO; simp
  have hd := HD.out
  have hs := HS2.out
  rw [hdd] at hd hs
  obtain ⟨e1, e2, e3⟩ := HFF.out
  rw [hF] at e1
  rw [hT] at e2
  rw [hU] at e3
  subst e1 e2 e3
  obtain ⟨⟨p0, p1⟩, s0, s1⟩ := HPT.out
  have HQ := Hi (HPN.out 9998 (by decide))
  have hqb := HPB.out 9998 (by decide)
  generalize hqq : pk n 9998 = q at *
  have HQQ := Hi hqq
  clear hqq
  obtain ⟨q0, q1⟩ := hqb
  have j1 : (pt - 20000 + 1 + q).tmod 10000 = (pt - 20000 + 1 + q) % 10000 := Int.tmod_eq_emod_of_nonneg (by omega)
  have HDG := Hi (fun (w' : World) (hb : Below w.heap.size w w') => datagram_r (port := (20000 + (pt - 20000 + 1 + q) % 10000)) (cap := rc) w' (row_stayB HRW.out hb) HRN.out hd hs)
  clear hs hd hdd hF hT hU HD HS2 HRW HRN HPT HFF
  go_wp2_with fail
  refine (o_still HO.out (HQ.out _)).mono ?_
  rintro e x61 ⟨rfl, hO, -⟩
  replace HO := Hi hO
  clear hO
  obtain ⟨z2_0, z2_1, z2_2, z2_3, z2_4, z2_5⟩ := HO.out.c6 2 rfl
  go_wp2_with fail
  refine (o_still HO.out (HDG.out _ HO.out.below)).mono ?_
  rintro e x60 ⟨rfl, hO, -⟩
  replace HO := Hi hO
  clear hO
  clear z2_0 z2_1 z2_2 z2_3 z2_4 z2_5
  obtain ⟨x62, hx62, bu, hbu, hO⟩ := HO.out.allocE (.cells #[.int .i64 0, .int .i64 0, .string ⟨#[]⟩] 56)
  replace HO := Hi (show Own _ _ _ [_, _, _, blkR bu (.cells #[.int .i64 0, .int .i64 0, .string ⟨#[]⟩] 56)] from hO)
  clear hO
  obtain ⟨x66, x69, x71, hx66, hx69, hx71, k3_0_63, lk3_0_63, k3_1_67, lk3_1_67, k3_2_70, lk3_2_70, hO⟩ := HO.out.steps3 3 rfl (.int .i64 53) (.int .i64 (20000 + (pt - 20000 + 1 + q) % 10000)) (.string s)
  replace HO := Hi (show Own _ _ _ [_, _, _, blkR bu (.cells #[.int .i64 53, .int .i64 (20000 + (pt - 20000 + 1 + q) % 10000), .string s] 56)] from hO)
  clear hO
  have ⟨z3_0, y3_0⟩ : x71.cell? _ = some (.int .i64 53) ∧ _ := HO.out.cf 3 rfl 0 rfl
  obtain ⟨x72, hx72, hO⟩ := HO.out.setE 3 rfl 0 (.int .i64 53)
  replace HO := Hi hO
  clear hO
  go_wp2
  clear hx62 hbu k3_0_63 lk3_0_63 hx66 k3_1_67 lk3_1_67 hx69 k3_2_70 lk3_2_70 hx71 z3_0 y3_0 hx72
  obtain ⟨g3_0, g3_1, g3_2⟩ := HO.out.g3 3 rfl
  refine wp_region_R 3 (by kernel_rfl) (by kernel_rfl) ?_
  simp only [List.take, List.drop]
  iterate 3 (first | (refine wpR_want (by kernel_rfl) rfl rfl ?_; intro K hK; go_big_quiet_op; go_big_quiet_on) | (refine wpR_is (by kernel_rfl) rfl _ (fun w _ => rfl) ?_; simp only [Act.put, l_T, l_S, l_Z]))
  refine wpR_nil (by kernel_rfl) (by simp) ?_
  rintro y7 hbw
  simp only [exAll]
  simp only [List.drop]
  have hO := HO.out.stay hbw
  replace HO := Hi hO
  clear hO hbw  g3_0 g3_1 g3_2
  obtain ⟨x76, x79, x81, hx76, hx79, hx81, k1_0_73, lk1_0_73, k1_1_77, lk1_1_77, k1_2_80, lk1_2_80, hO⟩ := HO.out.steps3 1 rfl (.int .i64 53) (.int .i64 (20000 + (pt - 20000 + 1 + q) % 10000)) (.string s)
  replace HO := Hi (show Own _ _ _ [_, blkR b9 (.cells #[.int .i64 53, .int .i64 (20000 + (pt - 20000 + 1 + q) % 10000), .string s] 56), _, _] from hO)
  clear hO
  go_wp2
  refine bodyPost_ret (results_tmp_cell rfl _ _ _ b9 56 _ _ _ rfl rfl (HO.out.blk 1 rfl) Tryz.underlying56 rfl infoUd) rfl ?_
  exact ⟨by rw [← HQQ.out]; rfl, HO.out.below⟩
 ·
  have hdd : mutD id n nm rs 2 = ⟨(id + 1 + pk n 65535) % 65536, true, 0, nm, 1, rs⟩ := by unfold mutD; simp
  have hF : mutF sv n 2 = sv := by unfold mutF; simp
  have hT : mutP pt n 2 = pt := by unfold mutP; simp
  have hU : mutO n 2 = 53 := by unfold mutO; simp
  have hd := HD.out
  have hs := HS2.out
  rw [hdd] at hd hs
  obtain ⟨e1, e2, e3⟩ := HFF.out
  rw [hF] at e1
  rw [hT] at e2
  rw [hU] at e3
  subst e1 e2 e3
  obtain ⟨⟨p0, p1⟩, s0, s1⟩ := HPT.out
  have HQ := Hi (HPN.out 65535 (by decide))
  have hqb := HPB.out 65535 (by decide)
  generalize hqq : pk n 65535 = q at *
  have HQQ := Hi hqq
  clear hqq
  obtain ⟨q0, q1⟩ := hqb
  have j1 : (id + 1 + q).tmod 65536 = (id + 1 + q) % 65536 := Int.tmod_eq_emod_of_nonneg (by omega)
  have HDG := Hi (fun (w' : World) (hb : Below w.heap.size w w') => datagram_r (port := pt) (cap := rc) w' (row_stayB HRW.out hb) HRN.out hd hs)
  clear hs hd hdd hF hT hU HD HS2 HRW HRN HPT HFF
  go_wp2
  have g2_0 := cell_regrown (show x50.cell? _ = some (.int .i64 id) from HO.out.cell 2 rfl 0 rfl)
  refine wp_region_R 7 (by kernel_rfl) (by kernel_rfl) ?_
  simp only [List.take, List.drop]
  iterate 4 (first | (refine wpR_want (by kernel_rfl) rfl rfl ?_; intro K hK; go_big_quiet_op; go_big_quiet_on) | (refine wpR_is (by kernel_rfl) rfl _ (fun w _ => rfl) ?_; simp only [Act.put, l_T, l_S, l_Z]))
  refine wpR_call (by kernel_rfl) rfl 21 #[.int .i64 n, .int .i64 65535] (.int .i64 q) (fun w => by simp [go_sem]) (fun w hb => HQ.out w) ?_
  simp only [Act.put, l_T, l_S, l_Z]
  iterate 2 (first | (refine wpR_want (by kernel_rfl) rfl rfl ?_; intro K hK; go_big_quiet_op; go_big_quiet_on) | (refine wpR_is (by kernel_rfl) rfl _ (fun w _ => rfl) ?_; simp only [Act.put, l_T, l_S, l_Z]))
  refine wpR_nil (by kernel_rfl) (by simp) ?_
  rintro y5 hbw
  simp only [exAll]
  simp only [List.drop]
  have hO := HO.out.stay hbw
  replace HO := Hi hO
  clear hO hbw  g2_0
  have ⟨z2_0, y2_0⟩ : y5.cell? _ = some (.int .i64 id) ∧ _ := HO.out.cf 2 rfl 0 rfl
  obtain ⟨x61, hx61, hO⟩ := HO.out.setE 2 rfl 0 (.int .i64 ((id + 1 + q) % 65536))
  replace HO := Hi (show Own _ _ _ [_, _, blkR bd (.cells #[.int .i64 ((id + 1 + q) % 65536), .bool true, .int .i64 0, .string nm, .int .i64 1, .slice ra rn rc] 86)] from hO)
  clear hO
  obtain ⟨z2_0t, z2_1, z2_2, z2_3, z2_4, z2_5⟩ := HO.out.c6 2 rfl
  go_wp2_with fail
  refine (o_still HO.out (HDG.out _ HO.out.below)).mono ?_
  rintro e x60 ⟨rfl, hO, -⟩
  replace HO := Hi hO
  clear hO
  clear z2_0 y2_0 hx61 z2_0t z2_1 z2_2 z2_3 z2_4 z2_5
  obtain ⟨x62, hx62, bu, hbu, hO⟩ := HO.out.allocE (.cells #[.int .i64 0, .int .i64 0, .string ⟨#[]⟩] 56)
  replace HO := Hi (show Own _ _ _ [_, _, _, blkR bu (.cells #[.int .i64 0, .int .i64 0, .string ⟨#[]⟩] 56)] from hO)
  clear hO
  obtain ⟨x66, x69, x71, hx66, hx69, hx71, k3_0_63, lk3_0_63, k3_1_67, lk3_1_67, k3_2_70, lk3_2_70, hO⟩ := HO.out.steps3 3 rfl (.int .i64 53) (.int .i64 pt) (.string s)
  replace HO := Hi (show Own _ _ _ [_, _, _, blkR bu (.cells #[.int .i64 53, .int .i64 pt, .string s] 56)] from hO)
  clear hO
  have ⟨z3_0, y3_0⟩ : x71.cell? _ = some (.int .i64 53) ∧ _ := HO.out.cf 3 rfl 0 rfl
  obtain ⟨x72, hx72, hO⟩ := HO.out.setE 3 rfl 0 (.int .i64 53)
  replace HO := Hi hO
  clear hO
  go_wp2
  clear hx62 hbu k3_0_63 lk3_0_63 hx66 k3_1_67 lk3_1_67 hx69 k3_2_70 lk3_2_70 hx71 z3_0 y3_0 hx72
  obtain ⟨g3_0, g3_1, g3_2⟩ := HO.out.g3 3 rfl
  refine wp_region_R 3 (by kernel_rfl) (by kernel_rfl) ?_
  simp only [List.take, List.drop]
  iterate 3 (first | (refine wpR_want (by kernel_rfl) rfl rfl ?_; intro K hK; go_big_quiet_op; go_big_quiet_on) | (refine wpR_is (by kernel_rfl) rfl _ (fun w _ => rfl) ?_; simp only [Act.put, l_T, l_S, l_Z]))
  refine wpR_nil (by kernel_rfl) (by simp) ?_
  rintro y7 hbw
  simp only [exAll]
  simp only [List.drop]
  have hO := HO.out.stay hbw
  replace HO := Hi hO
  clear hO hbw  g3_0 g3_1 g3_2
  obtain ⟨x76, x79, x81, hx76, hx79, hx81, k1_0_73, lk1_0_73, k1_1_77, lk1_1_77, k1_2_80, lk1_2_80, hO⟩ := HO.out.steps3 1 rfl (.int .i64 53) (.int .i64 pt) (.string s)
  replace HO := Hi (show Own _ _ _ [_, blkR b9 (.cells #[.int .i64 53, .int .i64 pt, .string s] 56), _, _] from hO)
  clear hO
  go_wp2
  refine bodyPost_ret (results_tmp_cell rfl _ _ _ b9 56 _ _ _ rfl rfl (HO.out.blk 1 rfl) Tryz.underlying56 rfl infoUd) rfl ?_
  exact ⟨rfl, HO.out.below⟩
 ·
  have hdd : mutD id n nm rs 3 = ⟨id, true, 0, othN nm, 1, rs⟩ := by unfold mutD; simp
  have hF : mutF sv n 3 = sv := by unfold mutF; simp
  have hT : mutP pt n 3 = pt := by unfold mutP; simp
  have hU : mutO n 3 = 53 := by unfold mutO; simp
  have hd := HD.out
  have hs := HS2.out
  rw [hdd] at hd hs
  obtain ⟨e1, e2, e3⟩ := HFF.out
  rw [hF] at e1
  rw [hT] at e2
  rw [hU] at e3
  subst e1 e2 e3
  obtain ⟨⟨p0, p1⟩, s0, s1⟩ := HPT.out
  have hz : nm.size ≤ 60 := HSZ.out
  have ho6 : (⟨#[111, 116, 104, 101, 114, 46]⟩ : ByteArray).size = 6 := rfl
  rw [show othN nm = ((⟨#[111, 116, 104, 101, 114, 46]⟩ : ByteArray) ++ nm) from rfl] at hd hs
  have HDG := Hi (fun (w' : World) (hb : Below w.heap.size w w') => datagram_r (port := pt) (cap := rc) w' (row_stayB HRW.out hb) HRN.out hd hs)
  clear hs hd hdd hF hT hU HD HS2 HRW HRN HPT HFF
  have ⟨z2_3, y2_3⟩ : x50.cell? _ = some (.string nm) ∧ _ := HO.out.cf 2 rfl 3 rfl
  obtain ⟨x61, hx61, hO⟩ := HO.out.setE 2 rfl 3 (.string ((⟨#[111, 116, 104, 101, 114, 46]⟩ : ByteArray) ++ nm))
  replace HO := Hi (show Own _ _ _ [_, _, blkR bd (.cells #[.int .i64 id, .bool true, .int .i64 0, .string ((⟨#[111, 116, 104, 101, 114, 46]⟩ : ByteArray) ++ nm), .int .i64 1, .slice ra rn rc] 86)] from hO)
  clear hO
  obtain ⟨z2_0, z2_1, z2_2, z2_3t, z2_4, z2_5⟩ := HO.out.c6 2 rfl
  go_wp2_with fail
  refine (o_still HO.out (HDG.out _ HO.out.below)).mono ?_
  rintro e x60 ⟨rfl, hO, -⟩
  replace HO := Hi hO
  clear hO
  clear z2_3 y2_3 hx61 z2_0 z2_1 z2_2 z2_3t z2_4 z2_5
  obtain ⟨x62, hx62, bu, hbu, hO⟩ := HO.out.allocE (.cells #[.int .i64 0, .int .i64 0, .string ⟨#[]⟩] 56)
  replace HO := Hi (show Own _ _ _ [_, _, _, blkR bu (.cells #[.int .i64 0, .int .i64 0, .string ⟨#[]⟩] 56)] from hO)
  clear hO
  obtain ⟨x66, x69, x71, hx66, hx69, hx71, k3_0_63, lk3_0_63, k3_1_67, lk3_1_67, k3_2_70, lk3_2_70, hO⟩ := HO.out.steps3 3 rfl (.int .i64 53) (.int .i64 pt) (.string s)
  replace HO := Hi (show Own _ _ _ [_, _, _, blkR bu (.cells #[.int .i64 53, .int .i64 pt, .string s] 56)] from hO)
  clear hO
  have ⟨z3_0, y3_0⟩ : x71.cell? _ = some (.int .i64 53) ∧ _ := HO.out.cf 3 rfl 0 rfl
  obtain ⟨x72, hx72, hO⟩ := HO.out.setE 3 rfl 0 (.int .i64 53)
  replace HO := Hi hO
  clear hO
  go_wp2
  clear hx62 hbu k3_0_63 lk3_0_63 hx66 k3_1_67 lk3_1_67 hx69 k3_2_70 lk3_2_70 hx71 z3_0 y3_0 hx72
  obtain ⟨g3_0, g3_1, g3_2⟩ := HO.out.g3 3 rfl
  refine wp_region_R 3 (by kernel_rfl) (by kernel_rfl) ?_
  simp only [List.take, List.drop]
  iterate 3 (first | (refine wpR_want (by kernel_rfl) rfl rfl ?_; intro K hK; go_big_quiet_op; go_big_quiet_on) | (refine wpR_is (by kernel_rfl) rfl _ (fun w _ => rfl) ?_; simp only [Act.put, l_T, l_S, l_Z]))
  refine wpR_nil (by kernel_rfl) (by simp) ?_
  rintro y7 hbw
  simp only [exAll]
  simp only [List.drop]
  have hO := HO.out.stay hbw
  replace HO := Hi hO
  clear hO hbw  g3_0 g3_1 g3_2
  obtain ⟨x76, x79, x81, hx76, hx79, hx81, k1_0_73, lk1_0_73, k1_1_77, lk1_1_77, k1_2_80, lk1_2_80, hO⟩ := HO.out.steps3 1 rfl (.int .i64 53) (.int .i64 pt) (.string s)
  replace HO := Hi (show Own _ _ _ [_, blkR b9 (.cells #[.int .i64 53, .int .i64 pt, .string s] 56), _, _] from hO)
  clear hO
  go_wp2
  refine bodyPost_ret (results_tmp_cell rfl _ _ _ b9 56 _ _ _ rfl rfl (HO.out.blk 1 rfl) Tryz.underlying56 rfl infoUd) rfl ?_
  exact ⟨rfl, HO.out.below⟩
 ·
  have hdd : mutD id n nm rs 4 = ⟨id, false, 0, nm, 1, []⟩ := by unfold mutD; simp
  have hF : mutF sv n 4 = sv := by unfold mutF; simp
  have hT : mutP pt n 4 = pt := by unfold mutP; simp
  have hU : mutO n 4 = 53 := by unfold mutO; simp
  have hd := HD.out
  have hs := HS2.out
  rw [hdd] at hd hs
  obtain ⟨e1, e2, e3⟩ := HFF.out
  rw [hF] at e1
  rw [hT] at e2
  rw [hU] at e3
  subst e1 e2 e3
  obtain ⟨⟨p0, p1⟩, s0, s1⟩ := HPT.out
  have HDG := Hi (fun (w' : World) (hb : Below w.heap.size w w') => datagram_r (port := pt) (a := none) (cap := 0) (n := 0) w' (((Own.nil w' none0).rowNew 49 5).row 0 rfl) rfl hd hs)
  clear hs hd hdd hF hT hU HD HS2 HRW HRN HPT HFF
  have ⟨z2_1, y2_1⟩ : x50.cell? _ = some (.bool true) ∧ _ := HO.out.cf 2 rfl 1 rfl
  obtain ⟨x61, hx61, hO⟩ := HO.out.setE 2 rfl 1 (.bool false)
  replace HO := Hi (show Own _ _ _ [_, _, blkR bd (.cells #[.int .i64 id, .bool false, .int .i64 0, .string nm, .int .i64 1, .slice ra rn rc] 86)] from hO)
  clear hO
  have ⟨z2_5, y2_5⟩ : x61.cell? _ = some (.slice ra rn rc) ∧ _ := HO.out.cf 2 rfl 5 rfl
  obtain ⟨x62, hx62, hO⟩ := HO.out.setE 2 rfl 5 (.slice none 0 0)
  replace HO := Hi (show Own _ _ _ [_, _, blkR bd (.cells #[.int .i64 id, .bool false, .int .i64 0, .string nm, .int .i64 1, .slice none 0 0] 86)] from hO)
  clear hO
  obtain ⟨z2_0, z2_1t, z2_2, z2_3, z2_4, z2_5t⟩ := HO.out.c6 2 rfl
  go_wp2_with fail
  refine (o_still HO.out (HDG.out _ HO.out.below)).mono ?_
  rintro e x60 ⟨rfl, hO, -⟩
  replace HO := Hi hO
  clear hO
  clear z2_1 y2_1 hx61 z2_5 y2_5 hx62 z2_0 z2_1t z2_2 z2_3 z2_4 z2_5t
  obtain ⟨x63, hx63, bu, hbu, hO⟩ := HO.out.allocE (.cells #[.int .i64 0, .int .i64 0, .string ⟨#[]⟩] 56)
  replace HO := Hi (show Own _ _ _ [_, _, _, blkR bu (.cells #[.int .i64 0, .int .i64 0, .string ⟨#[]⟩] 56)] from hO)
  clear hO
  obtain ⟨x67, x70, x72, hx67, hx70, hx72, k3_0_64, lk3_0_64, k3_1_68, lk3_1_68, k3_2_71, lk3_2_71, hO⟩ := HO.out.steps3 3 rfl (.int .i64 53) (.int .i64 pt) (.string s)
  replace HO := Hi (show Own _ _ _ [_, _, _, blkR bu (.cells #[.int .i64 53, .int .i64 pt, .string s] 56)] from hO)
  clear hO
  have ⟨z3_0, y3_0⟩ : x72.cell? _ = some (.int .i64 53) ∧ _ := HO.out.cf 3 rfl 0 rfl
  obtain ⟨x73, hx73, hO⟩ := HO.out.setE 3 rfl 0 (.int .i64 53)
  replace HO := Hi hO
  clear hO
  go_wp2
  clear hx63 hbu k3_0_64 lk3_0_64 hx67 k3_1_68 lk3_1_68 hx70 k3_2_71 lk3_2_71 hx72 z3_0 y3_0 hx73
  obtain ⟨g3_0, g3_1, g3_2⟩ := HO.out.g3 3 rfl
  refine wp_region_R 3 (by kernel_rfl) (by kernel_rfl) ?_
  simp only [List.take, List.drop]
  iterate 3 (first | (refine wpR_want (by kernel_rfl) rfl rfl ?_; intro K hK; go_big_quiet_op; go_big_quiet_on) | (refine wpR_is (by kernel_rfl) rfl _ (fun w _ => rfl) ?_; simp only [Act.put, l_T, l_S, l_Z]))
  refine wpR_nil (by kernel_rfl) (by simp) ?_
  rintro y7 hbw
  simp only [exAll]
  simp only [List.drop]
  have hO := HO.out.stay hbw
  replace HO := Hi hO
  clear hO hbw  g3_0 g3_1 g3_2
  obtain ⟨x77, x80, x82, hx77, hx80, hx82, k1_0_74, lk1_0_74, k1_1_78, lk1_1_78, k1_2_81, lk1_2_81, hO⟩ := HO.out.steps3 1 rfl (.int .i64 53) (.int .i64 pt) (.string s)
  replace HO := Hi (show Own _ _ _ [_, blkR b9 (.cells #[.int .i64 53, .int .i64 pt, .string s] 56), _, _] from hO)
  clear hO
  go_wp2
  refine bodyPost_ret (results_tmp_cell rfl _ _ _ b9 56 _ _ _ rfl rfl (HO.out.blk 1 rfl) Tryz.underlying56 rfl infoUd) rfl ?_
  exact ⟨rfl, HO.out.below⟩
 ·
  have hdd : mutD id n nm rs 5 = ⟨id, true, 0, nm, 1, rs⟩ := by unfold mutD; simp
  have hF : mutF sv n 5 = sv := by unfold mutF; simp
  have hT : mutP pt n 5 = pt := by unfold mutP; simp
  have hU : mutO n 5 = 54 + pk n 1000 := by unfold mutO; simp
  have hd := HD.out
  have hs := HS2.out
  rw [hdd] at hd hs
  obtain ⟨e1, e2, e3⟩ := HFF.out
  rw [hF] at e1
  rw [hT] at e2
  rw [hU] at e3
  subst e1 e2 e3
  obtain ⟨⟨p0, p1⟩, s0, s1⟩ := HPT.out
  have HQ := Hi (HPN.out 1000 (by decide))
  have hqb := HPB.out 1000 (by decide)
  generalize hqq : pk n 1000 = q at *
  have HQQ := Hi hqq
  clear hqq
  obtain ⟨q0, q1⟩ := hqb
  have HDG := Hi (fun (w' : World) (hb : Below w.heap.size w w') => datagram_r (port := pt) (cap := rc) w' (row_stayB HRW.out hb) HRN.out hd hs)
  clear hs hd hdd hF hT hU HD HS2 HRW HRN HPT HFF
  go_wp2_with fail
  refine (o_still HO.out (HQ.out _)).mono ?_
  rintro e x61 ⟨rfl, hO, -⟩
  replace HO := Hi hO
  clear hO
  obtain ⟨z2_0, z2_1, z2_2, z2_3, z2_4, z2_5⟩ := HO.out.c6 2 rfl
  go_wp2_with fail
  refine (o_still HO.out (HDG.out _ HO.out.below)).mono ?_
  rintro e x60 ⟨rfl, hO, -⟩
  replace HO := Hi hO
  clear hO
  clear z2_0 z2_1 z2_2 z2_3 z2_4 z2_5
  obtain ⟨x62, hx62, bu, hbu, hO⟩ := HO.out.allocE (.cells #[.int .i64 0, .int .i64 0, .string ⟨#[]⟩] 56)
  replace HO := Hi (show Own _ _ _ [_, _, _, blkR bu (.cells #[.int .i64 0, .int .i64 0, .string ⟨#[]⟩] 56)] from hO)
  clear hO
  obtain ⟨x66, x69, x71, hx66, hx69, hx71, k3_0_63, lk3_0_63, k3_1_67, lk3_1_67, k3_2_70, lk3_2_70, hO⟩ := HO.out.steps3 3 rfl (.int .i64 53) (.int .i64 pt) (.string s)
  replace HO := Hi (show Own _ _ _ [_, _, _, blkR bu (.cells #[.int .i64 53, .int .i64 pt, .string s] 56)] from hO)
  clear hO
  have ⟨z3_0, y3_0⟩ : x71.cell? _ = some (.int .i64 53) ∧ _ := HO.out.cf 3 rfl 0 rfl
  obtain ⟨x72, hx72, hO⟩ := HO.out.setE 3 rfl 0 (.int .i64 (54 + q))
  replace HO := Hi (show Own _ _ _ [_, _, _, blkR bu (.cells #[.int .i64 (54 + q), .int .i64 pt, .string s] 56)] from hO)
  clear hO
  go_wp2
  clear hx62 hbu k3_0_63 lk3_0_63 hx66 k3_1_67 lk3_1_67 hx69 k3_2_70 lk3_2_70 hx71 z3_0 y3_0 hx72
  obtain ⟨g3_0, g3_1, g3_2⟩ := HO.out.g3 3 rfl
  refine wp_region_R 3 (by kernel_rfl) (by kernel_rfl) ?_
  simp only [List.take, List.drop]
  iterate 3 (first | (refine wpR_want (by kernel_rfl) rfl rfl ?_; intro K hK; go_big_quiet_op; go_big_quiet_on) | (refine wpR_is (by kernel_rfl) rfl _ (fun w _ => rfl) ?_; simp only [Act.put, l_T, l_S, l_Z]))
  refine wpR_nil (by kernel_rfl) (by simp) ?_
  rintro y7 hbw
  simp only [exAll]
  simp only [List.drop]
  have hO := HO.out.stay hbw
  replace HO := Hi hO
  clear hO hbw  g3_0 g3_1 g3_2
  obtain ⟨x76, x79, x81, hx76, hx79, hx81, k1_0_73, lk1_0_73, k1_1_77, lk1_1_77, k1_2_80, lk1_2_80, hO⟩ := HO.out.steps3 1 rfl (.int .i64 (54 + q)) (.int .i64 pt) (.string s)
  replace HO := Hi (show Own _ _ _ [_, blkR b9 (.cells #[.int .i64 (54 + q), .int .i64 pt, .string s] 56), _, _] from hO)
  clear hO
  go_wp2
  refine bodyPost_ret (results_tmp_cell rfl _ _ _ b9 56 _ _ _ rfl rfl (HO.out.blk 1 rfl) Tryz.underlying56 rfl infoUd) rfl ?_
  exact ⟨by rw [← HQQ.out]; rfl, HO.out.below⟩

end Go.Proofs.YtbolfkojebbejaaGreatDoor
