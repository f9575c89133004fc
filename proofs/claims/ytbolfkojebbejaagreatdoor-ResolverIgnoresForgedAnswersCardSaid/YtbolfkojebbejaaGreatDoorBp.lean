/- ResolverFollowsZone without the program: a resolver whose cache says what one zone says. -/
import Derived.Test.YtbolfkojebbejaaGreatDoorLr3
import Derived.Test.YtbolfkojebbejaaGreatDoorRcv
import Derived.Test.YtbolfkojebbejaaGreatDoorLr1
import Derived.Test.YtbolfkojebbejaaGreatDoorRrl
import Derived.Test.YtbolfkojebbejaaGreatDoorBb
set_option linter.unusedVariables false
set_option maxRecDepth 100000
set_option maxHeartbeats 32000000
namespace Go.Proofs.YtbolfkojebbejaaGreatDoor
open Go.RowKit Go.Sort

variable {v : Value}
theorem sortZ_perm (l : List Int) : (sortZ l).Perm l := List.mergeSort_perm l _
theorem comp_list (l : List Int) : compZ l = ((List.range l.length).filter (Lib.keeps l.toArray)).map (l.toArray[·]!) := rfl
theorem keeps_iff {d : Array Int} {j : Nat} : Lib.keeps d j = true ↔ j = 0 ∨ d[j]! ≠ d[j - 1]! := by unfold Lib.keeps; exact decide_eq_true_iff
theorem comp_mem {l : List Int} (x : Int) : x ∈ compZ l ↔ x ∈ l := by
 rw [comp_list, List.mem_map]
 constructor
 ·
  rintro ⟨j, hj, rfl⟩
  have hjl := List.mem_range.1 (List.mem_filter.1 hj).1
  rw [getElem!_pos l.toArray j (by simpa using hjl)]
  simp
 ·
  intro hx
  obtain ⟨j, hj, hjx⟩ := List.getElem_of_mem hx
  have key : ∀ j, (hj : j < l.length) → l[j] = x → ∃ i, i ∈ (List.range l.length).filter (Lib.keeps l.toArray) ∧ l.toArray[i]! = x := by
   intro j
   induction j with
   | zero => exact fun hj e => ⟨0, List.mem_filter.2 ⟨List.mem_range.2 hj, keeps_iff.2 (.inl rfl)⟩, by rw [getElem!_pos l.toArray 0 (by simpa using hj)]; simpa using e⟩
   | succ j ih =>
    intro hj e
    by_cases h : l[j]'(by omega) = x
    ·
     exact ih (by omega) h
    ·
     refine ⟨j + 1, List.mem_filter.2 ⟨List.mem_range.2 hj, keeps_iff.2 (.inr ?_)⟩, by rw [getElem!_pos l.toArray (j + 1) (by simpa using hj)]; simpa using e⟩
     rw [getElem!_pos l.toArray (j + 1) (by simpa using hj), Nat.add_sub_cancel, getElem!_pos l.toArray j (by simp; omega)]
     simp only [List.getElem_toArray]
     rw [e]; exact fun h' => h h'.symm
  exact key j hj hjx
def ssZ (l : List Int) : List Int := compZ (sortZ l)
theorem ssZ_mem (l : List Int) (x : Int) : x ∈ ssZ l ↔ x ∈ l := (comp_mem x).trans (sortZ_perm l).mem_iff
def k3 (r : Rc) : Int × Int × ByteArray := (r.kd, r.ad, r.to)
def toOk (rs : List Rc) : Prop := ∀ r ∈ rs, r.kd ≠ 1 → r.to.toList ≠ []
def rslG (fo : ByteArray → List Rc) (kn : ByteArray → Bool) : Nat → List ByteArray → List ByteArray × RO
 | 0, ch => (ch, .fail 212)
 | f + 1, ch =>
  if adF (fo (lastN ch)) ≠ [] then (ch, .addrs (ssZ (adF (fo (lastN ch)))))
  else if (nxF (fo (lastN ch))).toList.isEmpty = true then (if kn (lastN ch) = true then (ch, .fail 211) else (ch, .ask))
  else if hasS (nxF (fo (lastN ch))) ch = true ∨ 4 < ch.length then (ch, .fail 212)
  else rslG fo kn f (ch ++ [nxF (fo (lastN ch))])
def zoneG (l : List Rc) : Nat → List ByteArray → List ByteArray × RO := rslG (fun nm => ofN nm l) (fun _ => true)
def P8 (s : ByteArray) : Prop := ∃ k, k < 8 ∧ s = nm8 k
structure Zone (tt : Int) (l : List Rc) : Prop where
 len : l.length ≤ 8
 ok : ∀ r ∈ l, RcV r ∧ r.tt = tt ∧ P8 r.nm ∧ (r.kd ≠ 1 → P8 r.to)
theorem v_ne {s : ByteArray} (h : P8 s) : s.toList ≠ [] := by
 obtain ⟨k, hk, rfl⟩ := h
 intro h
 have e := eq_nil_bytes h
 have h8 : k = 0 ∨ k = 1 ∨ k = 2 ∨ k = 3 ∨ k = 4 ∨ k = 5 ∨ k = 6 ∨ k = 7 := by omega
 rcases h8 with rfl | rfl | rfl | rfl | rfl | rfl | rfl | rfl <;> exact absurd (congrArg ByteArray.size e) (by decide)
section
variable {tt : Int} {l : List Rc} {es : List En} {now : Int}
theorem Zone.to (h : Zone tt l) : toOk l := fun r hr h1 => v_ne ((h.ok r hr).2.2.2 h1)
theorem Zone.kd (h : Zone tt l) {r : Rc} (hr : r ∈ l) : r.kd ≠ 0 := by
 rcases (h.ok r hr).1.al with ⟨h1, _⟩ | ⟨h1, _⟩ <;> omega
structure ZC (l : List Rc) (es : List En) : Prop where
 live : ∀ e ∈ es, 5 < e.ex
 key : ∀ e ∈ es, e.kd ≠ 0 → ∃ r ∈ l, ownK r = keyE e
 neg : ∀ e ∈ es, e.kd = 0 → ofN e.nm l = []
 all : ∀ e ∈ es, ∀ r ∈ l, r.nm = e.nm → ∃ x ∈ es, keyE x = ownK r
 nm : ∀ e ∈ es, P8 e.nm
theorem ZC.nil : ZC l [] := ⟨fun e h => (by cases h), fun e h => (by cases h), fun e h => (by cases h), fun e h => (by cases h), fun e h => (by cases h)⟩
end

def roE : RO → Int
 | .addrs _ => 0
 | .fail n => n
 | .ask => 0
def roA : RO → List Int
 | .addrs l => l
 | _ => []
def pendZ (sd : Int) (es : List En) (tk qn : Int) (b : Nat) (now : Int) (ch : List ByteArray) : Rz := ⟨[3, 5], sd, es, tk, qn, [(b, ⟨tk, ch, 1, qn, now, 3⟩)], []⟩
def doneZ (sd : Int) (es : List En) (tk qn : Int) (ro : RO) : Rz := ⟨[3, 5], sd, es, tk, qn, [], [⟨tk, roE ro, roA ro⟩]⟩
def restZ (sd : Int) (es : List En) (tk qn : Int) : Rz := ⟨[3, 5], sd, es, tk, qn, [], []⟩
structure Pend (l : List Rc) (want : RO) (ch : List ByteArray) : Prop where
 z : (zoneG l (6 - ch.length) ch).2 = want
 c0 : 0 < ch.length
 c5 : ch.length ≤ 5
 nm : ∀ s ∈ ch, P8 s
section
variable {tt : Int} {l : List Rc} {es : List En} {now sd tk qn nu se s0 : Int} {b : Nat} {want : RO} {ch : List ByteArray} {rs : List Rc}
end
section
attribute [local go_sem] Oper.semAt_some

structure Rq where
 nm : Int
 al : Bool
 to : Int
 tt : Int
abbrev rqA (x : Rq) : Array Value := #[.int .i64 x.nm, .bool x.al, .int .i64 x.to, .int .i64 x.tt]
structure RqOk (x : Rq) : Prop where
 nm : i64B x.nm
 to : i64B x.to
 tt : i64B x.tt
def rrF (x : Rq) : Rc := if x.al = true then ⟨nmL x.nm, 2, pk x.tt 60, 0, nmL x.to⟩ else ⟨nmL x.nm, 1, pk x.tt 60, 1 + pk x.to 9, ⟨#[]⟩⟩
theorem rrF_v (x : Rq) : RcV (rrF x) := by
 have h1 := pk_bd x.tt 60 (by decide)
 have h2 := pk_bd x.to 9 (by decide)
 unfold rrF
 split
 ·
  exact ⟨nmL_v _, h1.1, by show pk x.tt 60 ≤ 1000; omega, .inr ⟨rfl, nmL_v _, rfl⟩⟩
 ·
  exact ⟨nmL_v _, h1.1, by show pk x.tt 60 ≤ 1000; omega, .inl ⟨rfl, by simp [adrOk]; omega, emp_list⟩⟩
theorem rr_any (x : Rq) (hx : RqOk x) (w : World) : Calls Tryz.prog 87 #[.agg (rqA x)] w fun e w' => e = .returned (rcV (rrF x)) ∧ Below w.heap.size w w' := by
 have P1 := Hi (fun w => name21_any x.nm w hx.nm)
 have P2 := Hi (fun w => pick21_b x.tt 60 w hx.tt (by decide))
 have P3 := Hi (fun w => pick21_b x.to 9 w hx.to (by decide))
 have P5 := Hi (fun w => name21_any x.to w hx.to)
 have HF := Hi (show rrF x = if x.al = true then ⟨nmL x.nm, 2, pk x.tt 60, 0, nmL x.to⟩ else ⟨nmL x.nm, 1, pk x.tt 60, 1 + pk x.to 9, ⟨#[]⟩⟩ from rfl)
 have q3 := pk_bd x.to 9 (by decide)
 obtain ⟨nm, al, to, tt⟩ := x
 simp only at P1 P2 P3 P5 HF q3
 clear hx
 generalize nmL nm = n1 at *
 generalize nmL to = n5 at *
 generalize pk tt 60 = n2 at *
 generalize pk to 9 = n3 at *
 obtain ⟨q31, q32⟩ := q3
 have HO := Hi (show Own w none0 w [] from Own.nil w none0)
 obtain ⟨x1, hx1, bx, hbx, hO⟩ := HO.out.allocE (.cells #[.int .i64 nm, .bool al, .int .i64 to, .int .i64 tt] 173)
 replace HO := Hi (show Own _ _ _ [blkR bx (.cells #[.int .i64 nm, .bool al, .int .i64 to, .int .i64 tt] 173)] from hO)
 clear hO
 obtain ⟨x2, hx2, br, hbr, hO⟩ := HO.out.allocE (.cells #[.string ⟨#[]⟩, .int .i64 0, .int .i64 0, .int .i64 0, .string ⟨#[]⟩] 49)
 replace HO := Hi (show Own _ _ _ [_, blkR br (.cells #[.string ⟨#[]⟩, .int .i64 0, .int .i64 0, .int .i64 0, .string ⟨#[]⟩] 49)] from hO)
 clear hO
 have z0_1 : x2.cell? _ = some (.bool al) := HO.out.cell 0 rfl 1 rfl
 go_enter Tryz.func87, Tryz.ntmps87
 cases al with
 | true =>
  have HV := Hi (show rrF ⟨nm, true, to, tt⟩ = ⟨n1, 2, n2, 0, n5⟩ from HF.out)
  clear HF
  go_wp2
  clear hx1 hbx hx2 hbr z0_1
  have g0_0 := cell_regrown (show x2.cell? _ = some (.int .i64 nm) from HO.out.cell 0 rfl 0 rfl)
  have g0_2 := cell_regrown (show x2.cell? _ = some (.int .i64 to) from HO.out.cell 0 rfl 2 rfl)
  have g0_3 := cell_regrown (show x2.cell? _ = some (.int .i64 tt) from HO.out.cell 0 rfl 3 rfl)
  refine wp_region_R 10 (by kernel_rfl) (by kernel_rfl) ?_
  simp only [List.take, List.drop]
  iterate 2 (first | (refine wpR_want (by kernel_rfl) rfl rfl ?_; intro K hK; go_big_quiet_op; go_big_quiet_on) | (refine wpR_is (by kernel_rfl) rfl _ (fun w _ => rfl) ?_; simp only [Act.put, l_T, l_S, l_Z]))
  refine wpR_call (by kernel_rfl) rfl 20 #[.int .i64 nm] (.string n1) (fun w => by simp [go_sem]) (fun w _ => P1.out w) ?_
  simp only [Act.put, l_T, l_S, l_Z]
  iterate 2 (first | (refine wpR_want (by kernel_rfl) rfl rfl ?_; intro K hK; go_big_quiet_op; go_big_quiet_on) | (refine wpR_is (by kernel_rfl) rfl _ (fun w _ => rfl) ?_; simp only [Act.put, l_T, l_S, l_Z]))
  refine wpR_call (by kernel_rfl) rfl 21 #[.int .i64 tt, .int .i64 60] (.int .i64 n2) (fun w => by simp [go_sem]) (fun w _ => P2.out w) ?_
  simp only [Act.put, l_T, l_S, l_Z]
  iterate 2 (first | (refine wpR_want (by kernel_rfl) rfl rfl ?_; intro K hK; go_big_quiet_op; go_big_quiet_on) | (refine wpR_is (by kernel_rfl) rfl _ (fun w _ => rfl) ?_; simp only [Act.put, l_T, l_S, l_Z]))
  refine wpR_call (by kernel_rfl) rfl 20 #[.int .i64 to] (.string n5) (fun w => by simp [go_sem]) (fun w _ => P5.out w) ?_
  simp only [Act.put, l_T, l_S, l_Z]
  iterate 1 (first | (refine wpR_want (by kernel_rfl) rfl rfl ?_; intro K hK; go_big_quiet_op; go_big_quiet_on) | (refine wpR_is (by kernel_rfl) rfl _ (fun w _ => rfl) ?_; simp only [Act.put, l_T, l_S, l_Z]))
  refine wpR_nil (by kernel_rfl) (by simp) ?_
  rintro w5 hbw
  simp only [exAll]
  simp only [List.drop]
  have hO := HO.out.stay hbw
  replace HO := Hi (show Own _ _ _ [blkR bx (.cells #[.int .i64 nm, .bool true, .int .i64 to, .int .i64 tt] 173), _] from hO)
  clear hO hbw g0_0 g0_2 g0_3 
  obtain ⟨x8, x13, x17, x20, x22, hx8, hx13, hx17, hx20, hx22, k1_0_3, lk1_0_3, k1_1_9, lk1_1_9, k1_2_14, lk1_2_14, k1_3_18, lk1_3_18, k1_4_21, lk1_4_21, hO⟩ := HO.out.steps5 1 rfl (.string n1) (.int .i64 2) (.int .i64 n2) (.int .i64 0) (.string n5)
  replace HO := Hi (show Own _ _ _ [_, blkR br (.cells #[.string n1, .int .i64 2, .int .i64 n2, .int .i64 0, .string n5] 49)] from hO)
  clear hO
  obtain ⟨r0, r1, r2, r3, r4⟩ := HO.out.c5 1 rfl
  go_wp2
  exact bodyPost_ret (v := .agg #[.string n1, .int .i64 2, .int .i64 n2, .int .i64 0, .string n5]) (by simp [results, Tryz.results87, go_sem, r0, r1, r2, r3, r4]) rfl ⟨by rw [HV.out], HO.out.below⟩
 | false =>
  have HV := Hi (show rrF ⟨nm, false, to, tt⟩ = ⟨n1, 1, n2, 1 + n3, ⟨#[]⟩⟩ from HF.out)
  have hs : IntKind.i64.wrap (1 + n3) = 1 + n3 := IntWalk.i64_in _ (by omega)
  clear HF
  go_wp2
  clear hx1 hbx hx2 hbr z0_1
  have g0_0 := cell_regrown (show x2.cell? _ = some (.int .i64 nm) from HO.out.cell 0 rfl 0 rfl)
  have g0_2 := cell_regrown (show x2.cell? _ = some (.int .i64 to) from HO.out.cell 0 rfl 2 rfl)
  have g0_3 := cell_regrown (show x2.cell? _ = some (.int .i64 tt) from HO.out.cell 0 rfl 3 rfl)
  refine wp_region_R 11 (by kernel_rfl) (by kernel_rfl) ?_
  simp only [List.take, List.drop]
  iterate 2 (first | (refine wpR_want (by kernel_rfl) rfl rfl ?_; intro K hK; go_big_quiet_op; go_big_quiet_on) | (refine wpR_is (by kernel_rfl) rfl _ (fun w _ => rfl) ?_; simp only [Act.put, l_T, l_S, l_Z]))
  refine wpR_call (by kernel_rfl) rfl 20 #[.int .i64 nm] (.string n1) (fun w => by simp [go_sem]) (fun w _ => P1.out w) ?_
  simp only [Act.put, l_T, l_S, l_Z]
  iterate 2 (first | (refine wpR_want (by kernel_rfl) rfl rfl ?_; intro K hK; go_big_quiet_op; go_big_quiet_on) | (refine wpR_is (by kernel_rfl) rfl _ (fun w _ => rfl) ?_; simp only [Act.put, l_T, l_S, l_Z]))
  refine wpR_call (by kernel_rfl) rfl 21 #[.int .i64 tt, .int .i64 60] (.int .i64 n2) (fun w => by simp [go_sem]) (fun w _ => P2.out w) ?_
  simp only [Act.put, l_T, l_S, l_Z]
  iterate 2 (first | (refine wpR_want (by kernel_rfl) rfl rfl ?_; intro K hK; go_big_quiet_op; go_big_quiet_on) | (refine wpR_is (by kernel_rfl) rfl _ (fun w _ => rfl) ?_; simp only [Act.put, l_T, l_S, l_Z]))
  refine wpR_call (by kernel_rfl) rfl 21 #[.int .i64 to, .int .i64 9] (.int .i64 n3) (fun w => by simp [go_sem]) (fun w _ => P3.out w) ?_
  simp only [Act.put, l_T, l_S, l_Z]
  iterate 2 (first | (refine wpR_want (by kernel_rfl) rfl rfl ?_; intro K hK; go_big_quiet_op; go_big_quiet_on) | (refine wpR_is (by kernel_rfl) rfl _ (fun w _ => rfl) ?_; simp only [Act.put, l_T, l_S, l_Z]))
  refine wpR_nil (by kernel_rfl) (by simp) ?_
  rintro w5 hbw
  simp only [exAll]
  simp only [List.drop]
  have hO := HO.out.stay hbw
  replace HO := Hi (show Own _ _ _ [blkR bx (.cells #[.int .i64 nm, .bool false, .int .i64 to, .int .i64 tt] 173), _] from hO)
  clear hO hbw g0_0 g0_2 g0_3 hs 
  obtain ⟨x8, x13, x17, x20, x22, hx8, hx13, hx17, hx20, hx22, k1_0_3, lk1_0_3, k1_1_9, lk1_1_9, k1_2_14, lk1_2_14, k1_3_18, lk1_3_18, k1_4_21, lk1_4_21, hO⟩ := HO.out.steps5 1 rfl (.string n1) (.int .i64 1) (.int .i64 n2) (.int .i64 (1 + n3)) (.string ⟨#[]⟩)
  replace HO := Hi (show Own _ _ _ [_, blkR br (.cells #[.string n1, .int .i64 1, .int .i64 n2, .int .i64 (1 + n3), .string ⟨#[]⟩] 49)] from hO)
  clear hO
  obtain ⟨r0, r1, r2, r3, r4⟩ := HO.out.c5 1 rfl
  go_wp2
  exact bodyPost_ret (v := .agg #[.string n1, .int .i64 1, .int .i64 n2, .int .i64 (1 + n3), .string ⟨#[]⟩]) (by simp [results, Tryz.results87, go_sem, r0, r1, r2, r3, r4]) rfl ⟨by rw [HV.out], HO.out.below⟩
def RdRq (w : World) (v : Value) (len : Nat) (g : Nat → Rq) : Prop :=
 ∃ a cap, v = .slice a len cap ∧ len ≤ cap ∧ len ≤ 9223372036854775807 ∧ (∀ i, i < len → RqOk (g i)) ∧ (len ≠ 0 → ∃ b o, a = some ⟨b, o, none⟩ ∧ ∀ i, i < len → ∀ j, j < 4 → w.cell? ⟨b, o + i * 4 + j, none⟩ = (rqA (g i))[j]?)
theorem RdRq.stay {w w' : World} {len : Nat} {g : Nat → Rq} (h : RdRq w v len g) (hb : Below w.heap.size w w') : RdRq w' v len g := by
 obtain ⟨a, cap, h1, h2, h3, h4, h5⟩ := h
 refine ⟨a, cap, h1, h2, h3, h4, fun hn => ?_⟩
 obtain ⟨b, o, ha, hc⟩ := h5 hn
 refine ⟨b, o, ha, fun i hi j hj => ?_⟩
 have h6 := hc i hi j hj
 have h7 : ∃ u, (rqA (g i))[j]? = some u := ⟨_, Array.getElem?_eq_getElem (show j < 4 from hj)⟩
 obtain ⟨u, hu⟩ := h7
 rw [hu] at h6 ⊢
 exact keep hb h6
def rrsF (g : Nat → Rq) (k : Nat) : List Rc := (List.range k).map fun i => rrF (g i)
theorem rrsF_succ (g : Nat → Rq) (k : Nat) : rrsF g (k + 1) = rrsF g k ++ [rrF (g k)] := by unfold rrsF; rw [List.range_succ, List.map_append]; rfl
theorem rrsF_len (g : Nat → Rq) (k : Nat) : (rrsF g k).length = k := by simp [rrsF]
theorem rrsF_v (g : Nat → Rq) (k : Nat) : ∀ r ∈ rrsF g k, RcV r := fun r hr => by
 obtain ⟨i, _, rfl⟩ := List.mem_map.1 hr
 exact rrF_v _
theorem rrs_row (g : Nat → Rq) (k : Nat) : (rrsF g (k + 1)).flatMap cRc = (rrsF g k).flatMap cRc ++ cRc (rrF (g k)) := by rw [rrsF_succ, List.flatMap_append]; simp
theorem infoRc21 : (Tryz.prog.info? 49).map (fun i => (i.zero, i.size, i.bytes)) = some (some (.agg #[.string ⟨#[]⟩, .int .i64 0, .int .i64 0, .int .i64 0, .string ⟨#[]⟩]), 5, 56) := by kernel_rfl
theorem run_bsR21 (a : ByteArray) (b c d : Int) (s : ByteArray) (w : World) : (Instr.buildSlice 50 1 #[(0, .agg #[.string a, .int .i64 b, .int .i64 c, .int .i64 d, .string s])]).run Tryz.prog w = .ok (.slice (some ⟨w.heap.size, 0, none⟩) 1 1) (w.alloc (.cells #[.string a, .int .i64 b, .int .i64 c, .int .i64 d, .string s] 49)) := by kernel_rfl
section
attribute [local go_sem ↓] run_bsR21
theorem rrs_o {len k0 : Nat} {g : Nat → Rq} (w : World) (hr : RdRq w v len g) (hk : min len 8 = k0) :
  Calls Tryz.prog 37 #[v] w fun e w' => ∃ a cap, e = .returned (.slice a k0 cap) ∧ Own w none0 w' [rowR (.slice a k0 cap) 49 5 k0 ((rrsF g k0).flatMap cRc)] := by
 obtain ⟨p, cap, rfl, hcap, hlen, hok, hcell⟩ := hr
 have HOK := Hi hok
 have HC := Hi hcell
 clear hok hcell
 have HO := Hi (Own.nil w none0)
 go_enter Tryz.func37, Tryz.ntmps37
 go_wp2
 have HO := Hi (show Own w none0 w ([] ++ [rowR (.slice none 0 0) 49 5 0 ((rrsF g 0).flatMap cRc)]) from HO.out.rowNew 49 5)
 go_loopw [3, 4] (fun lv iv wr => ∃ (k : Nat) (a : Option Addr) (cap : Nat), k ≤ k0 ∧ iv = .int .i64 k ∧ lv = .slice a k cap ∧ Own w none0 wr [rowR (.slice a k cap) 49 5 k ((rrsF g k).flatMap cRc)]) (fun _ iv _ => k0 - (intOf iv).toNat)
 case atStart => exact ⟨0, none, 0, Nat.zero_le _, rfl, rfl, HO.out⟩
 case round =>
  obtain ⟨k, a1, cap1, hkk, rfl, rfl, hO⟩ := hrel
  replace HO := Hi hO
  clear hO
  by_cases hlt : k < k0
  ·
   have hd1 : decide ((k : Int) < (len : Int)) = true := decide_eq_true (by omega)
   have hd2 : decide ((k : Int) < 8) = true := decide_eq_true (by omega)
   obtain ⟨b, o, rfl, hcc⟩ := HC.out (by omega)
   have hok := HOK.out k (by omega)
   have hcc := hcc k (by omega)
   have HD := Hi (show ∀ (W : World), Below w.heap.size w W → ∀ j u, j < 4 → (rqA (g k))[j]? = some u → W.cell? ⟨b, o + k * 4 + j, none⟩ = some u from fun W hb j u hj hu => keep hb ((hcc j hj).trans hu))
   have HRX := Hi (fun w => rr_any (g k) hok w)
   have HRW := Hi (rrs_row g k)
   clear hcc hok
   generalize rrF (g k) = r at *
   generalize g k = x at *
   obtain ⟨xn, xk, xt, xa⟩ := x
   obtain ⟨c0, c1, c2, c3, c4⟩ := r
   have y0 : wr.cell? ⟨b, o + k * 4, none⟩ = some (.int .i64 xn) := HD.out wr HO.out.below 0 _ (by decide) rfl
   have y1 : wr.cell? ⟨b, o + k * 4 + 1, none⟩ = some (.bool xk) := HD.out wr HO.out.below 1 _ (by decide) rfl
   have y2 : wr.cell? ⟨b, o + k * 4 + 2, none⟩ = some (.int .i64 xt) := HD.out wr HO.out.below 2 _ (by decide) rfl
   have y3 : wr.cell? ⟨b, o + k * 4 + 3, none⟩ = some (.int .i64 xa) := HD.out wr HO.out.below 3 _ (by decide) rfl
   clear HD
   go_wp2_with fail
   refine (o_still HO.out (HRX.out _)).mono ?_
   rintro e x41 ⟨rfl, hO, -⟩
   replace HO := Hi (show Own w none0 x41 [rowR (.slice a1 k cap1) 49 5 k ((rrsF g k).flatMap cRc)] from hO)
   clear hO
   clear y0 y1 y2 y3
   obtain ⟨x42, hx42, bl, hbl, hO⟩ := HO.out.allocE (.cells #[.string c0, .int .i64 c1, .int .i64 c2, .int .i64 c3, .string c4] 49)
   replace HO := Hi (show Own _ _ _ [_, blkR bl (.cells #[.string c0, .int .i64 c1, .int .i64 c2, .int .i64 c3, .string c4] 49)] from hO)
   clear hO
   go_wp2_with ((at_builtin; refine (show _ = True → _ from fun h => of_eq_true h) ?_))
   refine eq_true ?_
   refine wpList_appO rfl (.tmp 15) (.tmp 21) 50 rfl Tryz.underlying50 infoRc21 rfl (by decide) HO.out 0 rfl rfl 1 1 1 (cRc ⟨c0, c1, c2, c3, c4⟩) rfl rfl rfl (oneRc _ _ _ _ _) (by unfold maxLen; omega) (by omega) ?_
   intro v' x43 hO
   clear hx42 hbl
   simp only [l_Z] at hO
   rw [← HRW.out] at hO
   obtain ⟨m, hm⟩ : ∃ y, k + 1 = y := ⟨_, rfl⟩
   have HM := Hi hm
   rw [hm] at hO
   clear hm
   obtain ⟨a2, cap2, rfl⟩ := row_shape (Own.row hO 0 rfl)
   replace HO := Hi (Own.take hO 1)
   clear hO
   replace HO := Hi (show Own w none0 x43 [rowR (.slice a2 m cap2) 49 5 m ((rrsF g m).flatMap cRc)] from HO.out)
   go_wp2
   go_roundw
   case rel => exact ⟨m, a2, cap2, by have := HM.out; omega, by have := HM.out; subst this; go_num, rfl, HO.out⟩
   case measure => simp [intOf]; omega
  ·
   obtain rfl : k = k0 := by omega
   by_cases hkl : k < len
   ·
    have hd2 : decide ((k : Int) < (len : Int)) = true := decide_eq_true (by omega)
    have hd3 : decide ((k : Int) < 8) = false := decide_eq_false (by omega)
    go_wp2
    go_ret
    exact ⟨a1, cap1, rfl, HO.out⟩
   ·
    have hd2 : decide ((k : Int) < (len : Int)) = false := decide_eq_false (by omega)
    go_wp2
    go_ret
    exact ⟨a1, cap1, rfl, HO.out⟩
end
end
section
attribute [local go_sem] Oper.semAt_some
end
section
attribute [local go_sem] Oper.semAt_some

theorem run_bsRc9 (a : ByteArray) (b c d : Int) (s : ByteArray) (w : World) : (Instr.buildSlice 50 1 #[(0, .agg #[.string a, .int .i64 b, .int .i64 c, .int .i64 d, .string s])]).run Tryz.prog w = .ok (.slice (some ⟨w.heap.size, 0, none⟩) 1 1) (w.alloc (.cells #[.string a, .int .i64 b, .int .i64 c, .int .i64 d, .string s] 49)) := by kernel_rfl
end
end Go.Proofs.YtbolfkojebbejaaGreatDoor
