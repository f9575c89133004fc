/- Contracts of compare, and of slices.SortFunc over records. -/
import Derived.Laws.Cover1
import Derived.Handy
import Derived.Test.YtbhglemolpfnkaaGreatDoorRegD
import Derived.Test.YtbhglemolpfnkaaGreatDoorSrt
import Derived.Test.YtbhglemolpfnkaaGreatDoorBc
import Derived.Test.YtbhglemolpfnkaaGreatDoorCdat
import Derived.Test.YtbhglemolpfnkaaGreatDoorBb
import Derived.Sort.Statements
import Derived.Shelf.SlSortCmp.WholeK
set_option linter.unusedVariables false
set_option maxRecDepth 100000
set_option maxHeartbeats 32000000
namespace Go.Proofs.YtbhglemolpfnkaaGreatDoor
open Go.RowKit Go.Sort Go.Lib Go.Shelf

variable {w : World} {v : Value}
def cmpZ (a b : Int) : Int := if a < b then -1 else if b < a then 1 else 0
theorem nanI_any (a : Int) (w : World) : Calls Tryz.prog 205 #[.int .i64 a] w fun e w' => e = .returned (.bool false) ∧ w = w' := by
 go_enter Tryz.func205, Tryz.ntmps205
 go_wp2
 go_ret
 exact ⟨rfl, rfl⟩
theorem nanS_any (a : ByteArray) (w : World) : Calls Tryz.prog 206 #[.string a] w fun e w' => e = .returned (.bool false) ∧ w = w' := by
 go_enter Tryz.func206, Tryz.ntmps206
 go_wp2
 go_ret
 exact ⟨rfl, rfl⟩
def cmpB (a b : ByteArray) : Int := if Op.bytesLess a.toList b.toList = true then -1 else if (a.toList == b.toList) = true then 0 else 1
theorem cmpI_any (a b : Int) (w : World) : Calls Tryz.prog 174 #[.int .i64 a, .int .i64 b] w fun e w' => e = .returned (.int .i64 (cmpZ a b)) ∧ w = w' := by
 obtain ⟨r, hr⟩ : ∃ r, cmpZ a b = r := ⟨_, rfl⟩
 have HR := Hi hr
 rw [hr]
 clear hr
 go_enter Tryz.func174, Tryz.ntmps174
 go_wp2_with (go_at_call 205; refine (nanI_any _ _).mono ?_; rintro e w' ⟨rfl, rfl⟩)
 all_goals
  go_ret
  refine ⟨ret_i64 ?_, rfl⟩
  rw [← HR.out]
  unfold cmpZ
  first
   | (rw [if_pos (by assumption)]; done)
   | (rw [if_neg (by omega), if_pos (by omega)]; done)
   | (rw [if_neg (by omega), if_neg (by omega)]; done)
theorem cmpS_any (a b : ByteArray) (w : World) : Calls Tryz.prog 175 #[.string a, .string b] w fun e w' => e = .returned (.int .i64 (cmpB a b)) ∧ w = w' := by
 obtain ⟨r, hr⟩ : ∃ r, cmpB a b = r := ⟨_, rfl⟩
 have HR := Hi hr
 rw [hr]
 unfold cmpB at HR
 cases h1 : Op.bytesLess a.toList b.toList with
 | true =>
  have HR2 := Hi (show -1 = r by rw [← HR.out, if_pos h1])
  clear HR hr
  go_enter Tryz.func175, Tryz.ntmps175
  go_wp2_with (go_at_call 206; refine (nanS_any _ _).mono ?_; rintro e w' ⟨rfl, rfl⟩)
  go_ret
  exact ⟨ret_i64 HR2.out, rfl⟩
 | false =>
  cases h2 : (a.toList == b.toList) with
  | true =>
   have HR2 := Hi (show 0 = r by rw [← HR.out, if_neg (by simp [h1]), if_pos h2])
   clear HR hr
   go_enter Tryz.func175, Tryz.ntmps175
   go_wp2_with (go_at_call 206; refine (nanS_any _ _).mono ?_; rintro e w' ⟨rfl, rfl⟩)
   go_ret
   exact ⟨ret_i64 HR2.out, rfl⟩
  | false =>
   have HR2 := Hi (show 1 = r by rw [← HR.out, if_neg (by simp [h1]), if_neg (by simp [h2])])
   clear HR hr
   go_enter Tryz.func175, Tryz.ntmps175
   go_wp2_with (go_at_call 206; refine (nanS_any _ _).mono ?_; rintro e w' ⟨rfl, rfl⟩)
   go_ret
   exact ⟨ret_i64 HR2.out, rfl⟩
def orZ (a b c : Int) : Int := if a ≠ 0 then a else if b ≠ 0 then b else c
theorem or_any (a b c : Int) (g : Nat) (t : TypeId) (w : World) (h : w.heap[g]? = some (.cells #[.int .i64 a, .int .i64 b, .int .i64 c] t)) : Calls Tryz.prog 173 #[.slice (some ⟨g, 0, none⟩) 3 3] w fun e w' => e = .returned (.int .i64 (orZ a b c)) ∧ w = w' := by
 obtain ⟨r, hr⟩ : ∃ r, orZ a b c = r := ⟨_, rfl⟩
 have HR := Hi hr
 rw [hr]
 have hlt := (Array.getElem?_eq_some_iff.1 h).1
 have c0 : w.cell? ⟨g, 0, none⟩ = some (.int .i64 a) := by simp [World.cell?, h]
 have c1 : w.cell? ⟨g, 1, none⟩ = some (.int .i64 b) := by simp [World.cell?, h]
 have c2 : w.cell? ⟨g, 2, none⟩ = some (.int .i64 c) := by simp [World.cell?, h]
 clear h hr hlt
 unfold orZ at HR
 by_cases ha : a = 0
 ·
  by_cases hb : b = 0
  ·
   subst ha
   subst hb
   have HR2 := Hi (show c = r by rw [← HR.out]; simp)
   clear HR
   by_cases hc : c = 0
   ·
    subst hc
    go_enter Tryz.func173, Tryz.ntmps173
    go_wp2
    go_rounds 4
    all_goals (go_ret; exact ⟨ret_i64 HR2.out, rfl⟩)
   ·
    have e3 : (c == 0) = false := by simpa using hc
    have e3' : (c != 0) = true := by simpa using hc
    clear hc
    go_enter Tryz.func173, Tryz.ntmps173
    go_wp2
    go_rounds 4
    all_goals (go_ret; exact ⟨ret_i64 HR2.out, rfl⟩)
  ·
   subst ha
   have HR2 := Hi (show b = r by rw [← HR.out]; simp [hb])
   clear HR
   have e3' : (b != 0) = true := by simpa using hb
   clear hb
   go_enter Tryz.func173, Tryz.ntmps173
   go_wp2
   go_rounds 4
   all_goals (go_ret; exact ⟨ret_i64 HR2.out, rfl⟩)
 ·
  have HR2 := Hi (show a = r by rw [← HR.out]; simp [ha])
  clear HR
  have e3' : (a != 0) = true := by simpa using ha
  clear ha
  go_enter Tryz.func173, Tryz.ntmps173
  go_wp2
  go_rounds 4
  all_goals (go_ret; exact ⟨ret_i64 HR2.out, rfl⟩)
def cmpR (x y : Rc) : Int := orZ (cmpZ x.kd y.kd) (cmpZ x.ad y.ad) (cmpB x.to y.to)
theorem bel_same {P : Program} {f : FuncId} {args : Array Value} (h : Calls P f args w fun e w' => e = .returned v ∧ w = w') : Calls P f args w fun e w' => e = .returned v ∧ D.Bel w.heap.size w w' := h.mono fun e w' ⟨h1, h2⟩ => ⟨h1, h2 ▸ D.Bel.refl _ _⟩
theorem run_bs3 (a b c : Int) (w : World) : (Instr.buildSlice 31 3 #[(0, .int .i64 a), (1, .int .i64 b), (2, .int .i64 c)]).run Tryz.prog w = .ok (.slice (some ⟨w.heap.size, 0, none⟩) 3 3) (w.alloc (.cells #[.int .i64 a, .int .i64 b, .int .i64 c] 3)) := by kernel_rfl
def row3 (o : Obj) : D.Pred := fun v w => ∃ b, v = .slice (some ⟨b, 0, none⟩) 3 3 ∧ w.heap[b]? = some o
theorem row3_lasts (o : Obj) : D.Lasts (row3 o) := by
 rintro v w w' ⟨b, rfl, hb⟩ hbl
 exact ⟨b, rfl, (hbl.block b (Array.getElem?_eq_some_iff.1 hb).1).trans hb⟩
theorem compare_any (x y : Rc) (w : World) : Calls Tryz.prog 150 #[rcV x, rcV y] w fun e w' => e = .returned (.int .i64 (cmpR x y)) ∧ D.Bel w.heap.size w w' := by
 obtain ⟨n1, k1, t1, a1, o1⟩ := x
 obtain ⟨n2, k2, t2, a2, o2⟩ := y
 have HR := Hi (show cmpR ⟨n1, k1, t1, a1, o1⟩ ⟨n2, k2, t2, a2, o2⟩ = orZ (cmpZ k1 k2) (cmpZ a1 a2) (cmpB o1 o2) from rfl)
 obtain ⟨x1, hx1⟩ : ∃ y, w.alloc (.cells #[.string n1, .int .i64 k1, .int .i64 t1, .int .i64 a1, .string o1] 131) = y := ⟨_, rfl⟩
 obtain ⟨x2, hx2⟩ : ∃ y, x1.alloc (.cells #[.string n2, .int .i64 k2, .int .i64 t2, .int .i64 a2, .string o2] 131) = y := ⟨_, rfl⟩
 have hB := (by rw [← hx2, ← hx1]; exact D.bel_mid (D.bel_alloc w _) (D.bel_alloc _ _) : D.Bel w.heap.size w x2)
 have HB := Hi hB
 have HO := Hi (Own.nil w none0)
 have hO := HO.out.alloc (.cells #[.string n1, .int .i64 k1, .int .i64 t1, .int .i64 a1, .string o1] 131)
 rw [hx1] at hO
 have hO := hO.alloc (.cells #[.string n2, .int .i64 k2, .int .i64 t2, .int .i64 a2, .string o2] 131)
 rw [hx2] at hO
 obtain ⟨p1, hp1⟩ : ∃ y, w.heap.size = y := ⟨_, rfl⟩
 obtain ⟨p2, hp2⟩ : ∃ y, x1.heap.size = y := ⟨_, rfl⟩
 rw [hp1, hp2] at hO
 replace HO := Hi (show Own w none0 x2 [blkR p1 (.cells #[.string n1, .int .i64 k1, .int .i64 t1, .int .i64 a1, .string o1] 131), blkR p2 (.cells #[.string n2, .int .i64 k2, .int .i64 t2, .int .i64 a2, .string o2] 131)] from hO)
 clear hO hB
 go_enter Tryz.func150, Tryz.ntmps150
 go_wp2
 clear hx1 hx2 hp1 hp2
 obtain ⟨-, g0_1, -, g0_3, g0_4⟩ := HO.out.g5 0 rfl
 obtain ⟨-, g1_1, -, g1_3, g1_4⟩ := HO.out.g5 1 rfl
 refine D.wp_region_R 16 (by kernel_rfl) (by kernel_rfl) ?_
 simp only [List.take, List.drop]
 iterate 4 (refine D.wpR_want (by kernel_rfl) rfl rfl ?_; intro K hK; go_big_quiet_op; go_big_quiet_on)
 refine D.wpR_call (by kernel_rfl) rfl 174 #[.int .i64 k1, .int .i64 k2] (.int .i64 (cmpZ k1 k2)) (fun w => by simp [go_sem]) (fun w _ => bel_same (cmpI_any k1 k2 w)) ?_
 simp only [Act.put, l_T, l_S, l_Z]
 iterate 4 (refine D.wpR_want (by kernel_rfl) rfl rfl ?_; intro K hK; go_big_quiet_op; go_big_quiet_on)
 refine D.wpR_call (by kernel_rfl) rfl 174 #[.int .i64 a1, .int .i64 a2] (.int .i64 (cmpZ a1 a2)) (fun w => by simp [go_sem]) (fun w _ => bel_same (cmpI_any a1 a2 w)) ?_
 simp only [Act.put, l_T, l_S, l_Z]
 iterate 4 (refine D.wpR_want (by kernel_rfl) rfl rfl ?_; intro K hK; go_big_quiet_op; go_big_quiet_on)
 refine D.wpR_call (by kernel_rfl) rfl 175 #[.string o1, .string o2] (.int .i64 (cmpB o1 o2)) (fun w => by simp [go_sem]) (fun w _ => bel_same (cmpS_any o1 o2 w)) ?_
 simp only [Act.put, l_T, l_S, l_Z]
 refine D.wpR_ex (row3 (.cells #[.int .i64 (cmpZ k1 k2), .int .i64 (cmpZ a1 a2), .int .i64 (cmpB o1 o2)] 3)) (row3_lasts _) (by kernel_rfl) (fun a' w' hw' he => ?_) (fun d hd => ?_)
 ·
  obtain ⟨e9, e14, e19, _⟩ := he
  have e9' : a'.eval (.tmp 9) = .int .i64 (cmpZ k1 k2) := e9
  have e14' : a'.eval (.tmp 14) = .int .i64 (cmpZ a1 a2) := e14
  have e19' : a'.eval (.tmp 19) = .int .i64 (cmpB o1 o2) := e19
  refine wp_of_value (v := .slice (some ⟨w'.heap.size, 0, none⟩) 3 3) (w' := w'.alloc (.cells #[.int .i64 (cmpZ k1 k2), .int .i64 (cmpZ a1 a2), .int .i64 (cmpB o1 o2)] 3)) (run_v_ok ?_) ⟨_, rfl, D.bel_alloc _ _, ⟨w'.heap.size, rfl, new_block _ _⟩⟩
  simp only [List.map_toArray, List.map_cons, List.map_nil, e9', e14', e19']
  exact run_bs3 _ _ _ _
 cases hd
 simp only [List.nil_append]
 refine D.wpR_nil (by kernel_rfl) (by simp) ?_
 rintro x5 hbw
 simp only [exAll]
 rintro u20 ⟨g, rfl, hg⟩
 simp only [Act.put, l_T, l_S, l_Z, List.drop]
 have HB2 := Hi (D.bel_mid HB.out hbw)
 have HG := Hi hg
 clear hbw hg g0_1 g0_3 g0_4 g1_1 g1_3 g1_4
 go_wp2_with fail
 refine (or_any _ _ _ g _ _ HG.out).mono ?_
 rintro e x6 ⟨rfl, rfl⟩
 go_wp2
 go_ret
 exact ⟨by rw [HR.out]; rfl, HB2.out⟩
theorem bl_irrefl : ∀ a : List UInt8, Op.bytesLess a a = false
 | [] => rfl
 | a :: x => by
  simp only [Op.bytesLess, bl_irrefl x, Bool.and_false, Bool.or_false, decide_eq_false_iff_not]
  exact UInt8.lt_irrefl a
theorem bl_trans : ∀ a b c : List UInt8, Op.bytesLess a b = true → Op.bytesLess b c = true → Op.bytesLess a c = true
 | [], [], c, h, _ => by simp [Op.bytesLess] at h
 | [], b :: y, [], _, h => by simp [Op.bytesLess] at h
 | [], b :: y, c :: z, _, _ => by simp [Op.bytesLess]
 | a :: x, [], c, h, _ => by simp [Op.bytesLess] at h
 | a :: x, b :: y, [], _, h => by simp [Op.bytesLess] at h
 | a :: x, b :: y, c :: z, h1, h2 => by
  simp only [Op.bytesLess, Bool.or_eq_true, decide_eq_true_eq, Bool.and_eq_true, beq_iff_eq] at *
  rcases h1 with h1 | ⟨rfl, h1⟩
  ·
   rcases h2 with h2 | ⟨rfl, h2⟩
   ·
    exact .inl (UInt8.lt_trans h1 h2)
   ·
    exact .inl h1
  ·
   rcases h2 with h2 | ⟨rfl, h2⟩
   ·
    exact .inl h2
   ·
    exact .inr ⟨rfl, bl_trans x y z h1 h2⟩
theorem bl_tri : ∀ a b : List UInt8, Op.bytesLess a b = true ∨ a = b ∨ Op.bytesLess b a = true
 | [], [] => .inr (.inl rfl)
 | [], b :: y => .inl (by simp [Op.bytesLess])
 | a :: x, [] => .inr (.inr (by simp [Op.bytesLess]))
 | a :: x, b :: y => by
  simp only [Op.bytesLess, Bool.or_eq_true, decide_eq_true_eq, Bool.and_eq_true, beq_iff_eq, List.cons.injEq]
  rcases UInt8.lt_or_lt_of_ne (a := a) (b := b) |> fun h => (Decidable.em (a = b)).imp id h with h | h | h
  ·
   subst h
   rcases bl_tri x y with h | h | h
   ·
    exact .inl (.inr ⟨rfl, h⟩)
   ·
    exact .inr (.inl ⟨rfl, h⟩)
   ·
    exact .inr (.inr (.inr ⟨rfl, h⟩))
  ·
   exact .inl (.inl h)
  ·
   exact .inr (.inr (.inl h))
theorem flat_len {α : Type} (enc : α → List Value) (k : Nat) (hk : ∀ x, (enc x).length = k) : ∀ l : List α, (l.flatMap enc).length = l.length * k
 | [] => by simp
 | a :: l => by rw [List.flatMap_cons, List.length_append, hk, flat_len enc k hk l, List.length_cons, Nat.add_mul]; omega
theorem flatK_list {α : Type} [Inhabited α] (enc : α → List Value) (k : Nat) (hk : ∀ x, (enc x).length = k) (h0 : 0 < k) (d : Array α) : (flatK enc k d).toList = d.toList.flatMap enc := by
 apply List.ext_getElem?
 intro t
 have hlen : (d.toList.flatMap enc).length = d.size * k := by rw [flat_len enc k hk]; simp
 by_cases ht : t < d.size * k
 ·
  have hj : t / k < d.size := Nat.div_lt_of_lt_mul (by rw [Nat.mul_comm]; exact ht)
  have hm : t % k < k := Nat.mod_lt _ h0
  have h1 := flat_getR enc k hk d.toList (t / k) (by simpa using hj) (t % k) hm
  have e : t / k * k + t % k = t := by rw [Nat.mul_comm]; exact Nat.div_add_mod t k
  rw [e] at h1
  rw [h1]
  have hsz : t < (flatK enc k d).size := by simpa using ht
  have h2 := get_flatK enc k d t ht
  rw [getElem!_pos _ t hsz] at h2
  rw [Array.getElem?_toList, Array.getElem?_eq_getElem hsz, h2]
  have hl : t % k < (enc d[t / k]!).length := by rw [hk]; exact hm
  rw [getElem!_pos (enc d[t / k]!) (t % k) hl]
  simp only [getElem!_pos d (t / k) hj, Array.getElem_toList]
  rw [List.getElem?_eq_getElem]
 ·
  rw [List.getElem?_eq_none (l := d.toList.flatMap enc) (by rw [hlen]; omega), List.getElem?_eq_none (by simp; omega)]
theorem row_put {E sz n : Nat} {g cap : Nat} {xs ys : List Value} (h : w.ownsRow 0 E sz (.slice (some ⟨g, 0, none⟩) n cap) n xs) (hl : ys.length = n * sz) (m : Nat) (os : Array Obj) :
  (grow (putRow id (Go.Sort.ahead w m) g 0 ys.toArray) os).ownsRow 0 E sz (.slice (some ⟨g, 0, none⟩) n cap) n ys ∧ Upd (fun b => b = g) w (grow (putRow id (Go.Sort.ahead w m) g 0 ys.toArray) os) := by
 obtain ⟨h1, ⟨e, _⟩ | ⟨g', cap', cur, e, hg0, hh, hcp, hmx, hs, htk⟩⟩ := h
 ·
  cases e
 ·
  cases e
  have hlt : g < w.heap.size := (Array.getElem?_eq_some_iff.1 hh).1
  have hput : (putRow id (Go.Sort.ahead w m) g 0 ys.toArray).heap = w.heap.modify g (onCells (putCells id 0 ys.toArray)) := rfl
  have hgr : ∀ k, k < w.heap.size → (grow (putRow id (Go.Sort.ahead w m) g 0 ys.toArray) os).heap[k]? = (w.heap.modify g (onCells (putCells id 0 ys.toArray)))[k]? := fun k hk => by
   show ((putRow id (Go.Sort.ahead w m) g 0 ys.toArray).heap ++ os)[k]? = _
   rw [hput, Array.getElem?_append_left (by simpa using hk)]
  refine ⟨⟨hl, .inr ⟨g, cap, putCells id 0 ys.toArray cur, rfl, hg0, ?_, hcp, hmx, by simp [putCells, hs], ?_⟩⟩, rfl, rfl, rfl, ?_, fun k hk hne => ?_⟩
  ·
   rw [hgr g hlt, Array.getElem?_modify, if_pos rfl, hh]; rfl
  ·
   have hcur : n * sz ≤ cur.size := by rw [hs]; exact Nat.mul_le_mul_right _ hcp
   apply List.ext_getElem?
   intro t
   rw [List.getElem?_take]
   by_cases ht : t < n * sz
   ·
    rw [if_pos ht]
    have h2 : t < cur.size := by omega
    simp only [putCells, Array.toList_mapIdx, List.getElem?_mapIdx]
    rw [Array.getElem?_toList, Array.getElem?_eq_getElem h2]
    simp only [Option.map_some, Nat.zero_le, true_and, Nat.zero_add, List.size_toArray, hl, ht, if_true, Nat.sub_zero, id]
    rw [getElem!_pos _ t (by simpa [hl] using ht), List.getElem?_eq_getElem (by omega)]
    simp
   ·
    rw [if_neg ht, List.getElem?_eq_none (by omega)]
  ·
   show w.heap.size ≤ ((putRow id (Go.Sort.ahead w m) g 0 ys.toArray).heap ++ os).size
   rw [hput]; simp
  ·
   rw [hgr k hk, Array.getElem?_modify, if_neg (fun e => hne e.symm)]
theorem set_same' {α : Type} {L : List α} {j : Nat} {x : α} (h : L[j]? = some x) : L.set j x = L := by
 apply List.ext_getElem?
 intro k
 rw [List.getElem?_set]
 split
 ·
  rename_i e; subst e
  have : j < L.length := by
   rcases Nat.lt_or_ge j L.length with h' | h'
   ·
    exact h'
   ·
    rw [List.getElem?_eq_none h'] at h; cases h
  obtain ⟨_, hx⟩ := List.getElem?_eq_some_iff.1 h
  simp [this, hx]
 ·
  rfl
instance : Inhabited Rc := ⟨⟨⟨#[]⟩, 0, 0, 0, ⟨#[]⟩⟩⟩
def ltR (x y : Rc) : Prop := x.kd < y.kd ∨ (x.kd = y.kd ∧ (x.ad < y.ad ∨ (x.ad = y.ad ∧ Op.bytesLess x.to.toList y.to.toList = true)))
instance (x y : Rc) : Decidable (ltR x y) := by unfold ltR; infer_instance
theorem cmpR_lt (x y : Rc) : cmpR x y < 0 ↔ ltR x y := by
 unfold cmpR orZ cmpZ cmpB ltR
 by_cases h1 : x.kd < y.kd
 ·
  simp [h1]
 ·
  by_cases h2 : y.kd < x.kd
  ·
   simp only [h1, h2, if_false, if_true]
   simp; omega
  ·
   have e : x.kd = y.kd := by omega
   by_cases h3 : x.ad < y.ad
   ·
    simp [e, h3]
   ·
    by_cases h4 : y.ad < x.ad
    ·
     simp only [e, h3, h4, if_false, if_true]
     simp; omega
    ·
     have e2 : x.ad = y.ad := by omega
     cases h5 : Op.bytesLess x.to.toList y.to.toList with
     | true => simp [e, e2]
     | false =>
      by_cases h6 : x.to.toList = y.to.toList
      ·
       simp [e, e2, h6]
      ·
       simp [e, e2, h6]
theorem ltR_irrefl (x : Rc) : ¬ ltR x x := by
 unfold ltR
 rw [bl_irrefl]
 simp
theorem ltR_trans {x y z : Rc} (h1 : ltR x y) (h2 : ltR y z) : ltR x z := by
 unfold ltR at *
 rcases h1 with h1 | ⟨e1, h1 | ⟨f1, h1⟩⟩
 ·
  rcases h2 with h2 | ⟨e2, _⟩
  ·
   exact .inl (by omega)
  ·
   exact .inl (by omega)
 ·
  rcases h2 with h2 | ⟨e2, h2 | ⟨f2, h2⟩⟩
  ·
   exact .inl (by omega)
  ·
   exact .inr ⟨by omega, .inl (by omega)⟩
  ·
   exact .inr ⟨by omega, .inl (by omega)⟩
 ·
  rcases h2 with h2 | ⟨e2, h2 | ⟨f2, h2⟩⟩
  ·
   exact .inl (by omega)
  ·
   exact .inr ⟨by omega, .inl (by omega)⟩
  ·
   exact .inr ⟨by omega, .inr ⟨by omega, bl_trans _ _ _ h1 h2⟩⟩
theorem ltR_tri (x y : Rc) : ltR x y ∨ (x.kd = y.kd ∧ x.ad = y.ad ∧ x.to.toList = y.to.toList) ∨ ltR y x := by
 unfold ltR
 rcases Int.lt_trichotomy x.kd y.kd with h | h | h
 ·
  exact .inl (.inl h)
 ·
  rcases Int.lt_trichotomy x.ad y.ad with h2 | h2 | h2
  ·
   exact .inl (.inr ⟨h, .inl h2⟩)
  ·
   rcases bl_tri x.to.toList y.to.toList with h3 | h3 | h3
   ·
    exact .inl (.inr ⟨h, .inr ⟨h2, h3⟩⟩)
   ·
    exact .inr (.inl ⟨h, h2, h3⟩)
   ·
    exact .inr (.inr (.inr ⟨h.symm, .inr ⟨h2.symm, h3⟩⟩))
  ·
   exact .inr (.inr (.inr ⟨h.symm, .inl h2⟩))
 ·
  exact .inr (.inr (.inl h))
theorem ltR_eqv {x y z : Rc} (h : x.kd = y.kd ∧ x.ad = y.ad ∧ x.to.toList = y.to.toList) : (ltR x z ↔ ltR y z) ∧ (ltR z x ↔ ltR z y) := by
 unfold ltR
 obtain ⟨h1, h2, h3⟩ := h
 rw [h1, h2, h3]
 exact ⟨Iff.rfl, Iff.rfl⟩
theorem ltR_neg {x y z : Rc} (h1 : ¬ ltR x y) (h2 : ¬ ltR y z) : ¬ ltR x z := by
 intro h
 rcases ltR_tri x y with a | a | a
 ·
  exact h1 a
 ·
  exact h2 ((ltR_eqv a).1.1 h)
 ·
  rcases ltR_tri y z with b | b | b
  ·
   exact h2 b
  ·
   exact h1 ((ltR_eqv b).2.2 h)
  ·
   exact ltR_irrefl _ (ltR_trans (ltR_trans b a) h)
theorem ltOf_R (x y : Rc) : ltOf cmpR x y = decide (ltR x y) := by
 unfold ltOf
 rw [decide_eq_decide]
 exact cmpR_lt x y
theorem cmpR_swo : SWO (ltOf cmpR) where
 irrefl x := by rw [ltOf_R]; exact decide_eq_false (ltR_irrefl x)
 trans x y z h1 h2 := by rw [ltOf_R] at *; exact decide_eq_true (ltR_trans (of_decide_eq_true h1) (of_decide_eq_true h2))
 ntrans x y z h1 h2 := by rw [ltOf_R] at *; exact decide_eq_false (ltR_neg (of_decide_eq_false h1) (of_decide_eq_false h2))
def sortedR (l : List Rc) : Prop := l.Pairwise fun x y => ¬ ltR y x
theorem oneR (r : Rc) : ∀ u ∈ cRc r, u.oneCell' = true := by
 intro u hu; simp [cRc] at hu; rcases hu with h | h | h | h | h <;> (subst h; rfl)
theorem sort_lays (blk off size : Nat) (w : World) : CmpLays Tryz.prog 150 #[] cRc 5 cmpR blk off size w := fun m os dk hs x y =>
 (compare_any x y _).mono fun e w' ⟨he, hb⟩ => ⟨he, hb.grown⟩
theorem ins0 (p : Option Addr) (cap : Nat) (fv : Value) (w : World) : Calls Tryz.prog 197 #[.slice p 0 cap, .int .i64 0, .int .i64 0, fv] w fun e w' => e = .returned (.tuple #[]) ∧ w = w' := by
 go_enter Tryz.func197, Tryz.ntmps197
 go_wp2
 go_rounds 1
 go_end0
 exact ⟨rfl, rfl⟩
theorem pdq0 (p : Option Addr) (cap : Nat) (lim : Int) (fv : Value) (w : World) : Calls Tryz.prog 172 #[.slice p 0 cap, .int .i64 0, .int .i64 0, .int .i64 lim, fv] w fun e w' => e = .returned (.tuple #[]) ∧ w = w' := by
 go_enter Tryz.func172, Tryz.ntmps172
 go_wp2
 refine wp_loop_rounds 1 ?_
 rw [rounds_succ]
 go_wp2_with (go_at_call 197; refine (ins0 _ _ _ _).mono ?_; rintro e w' ⟨rfl, rfl⟩)
 (try simp only [Exit.inBlock, Exit.then]); refine bodyPost_ret (results_none rfl _ _ _) rfl ?_
 exact ⟨rfl, rfl⟩
theorem sort0 (p : Option Addr) (cap : Nat) (fv : Value) (w : World) : Calls Tryz.prog 149 #[.slice p 0 cap, fv] w fun e w' => e = .returned (.tuple #[]) ∧ w = w' := by
 have hl : ∀ W, Calls Tryz.prog 152 #[.int .u64 0] W fun e w' => e = .returned (.int .i64 (Lib.bitLen 0 : Nat)) ∧ w' = W := fun W => by
  have h := Any.bits_Len (SlLaysF0.n15.bits (P := Tryz.prog) (ρ := sortRec_ren) { sortRec with }) 0 W (by omega) (by omega)
  exact h
 generalize (Lib.bitLen 0 : Nat) = q at hl
 have HLL := Hi hl
 clear hl
 go_enter Tryz.func149, Tryz.ntmps149
 go_wp2_with (first | (go_at_call 152; refine (HLL.out _).mono ?_; rintro e w' ⟨rfl, rfl⟩) | (go_at_call 172; refine (pdq0 _ _ _ _ _).mono ?_; rintro e w' ⟨rfl, rfl⟩))
 go_end0
 exact ⟨rfl, rfl⟩
def SortPost (w0 : World) (D : Nat → Prop) (L : List Res) (i : Nat) (v : Value) (d : List Rc) (w : World) (e : Ending) (w' : World) : Prop :=
 e = .returned (.tuple #[]) ∧ ∃ d', d'.Perm d ∧ sortedR d' ∧ Own w0 D w' (L.set i (rowR v 131 5 d.length (d'.flatMap cRc))) ∧ w.heap.size ≤ w'.heap.size
theorem sort_o {w0 w : World} {D : Nat → Prop} {L : List Res} {d : List Rc} (h : Own w0 D w L) (i : Nat) (hi : L[i]? = some (rowR v 131 5 d.length (d.flatMap cRc))) (hl : d.length ≤ 1000) :
  Calls Tryz.prog 149 #[v, .func (.func 150) #[] #[]] w (SortPost w0 D L i v d w) := by
 have hrow := h.row i hi
 obtain ⟨a, cap, hv⟩ := row_shape hrow
 by_cases h0 : d.length = 0
 ·
  have hd : d = [] := List.eq_nil_of_length_eq_zero h0
  subst hd
  subst hv
  refine (sort0 a cap _ w).mono ?_
  rintro e w' ⟨he, rfl⟩
  exact ⟨he, [], List.Perm.refl _, List.Pairwise.nil, by rw [set_same' hi]; exact h, Nat.le_refl _⟩
 ·
  subst hv
  obtain ⟨g, rfl⟩ := row_some hrow (by omega)
  have hfl := flatK_list cRc 5 (fun _ => rfl) (by decide) d.toArray
  have hH : HoldsK cRc 5 w g 0 d.toArray := by
   obtain ⟨hc, hf⟩ := row_cells hrow
   intro j hj
   rw [size_flatK] at hj
   simp only [List.size_toArray] at hj
   refine ⟨?_, hf _⟩
   have hjs : j < (flatK cRc 5 d.toArray).size := by simpa using hj
   rw [getElem!_pos _ j hjs, Nat.zero_add]
   refine hc j _ ?_
   rw [← show (flatK cRc 5 d.toArray).toList = d.flatMap cRc from hfl, Array.getElem?_toList, Array.getElem?_eq_getElem hjs]
   rfl
  have hlt : g < w.heap.size := by
   obtain ⟨_, ⟨e, _⟩ | ⟨g', cp, cur, e, _, hh, _⟩⟩ := hrow
   ·
    cases e
   ·
    cases e; exact (Array.getElem?_eq_some_iff.1 hh).1
  have hcon := AnyQ.slices_SortFunc sortRec 5 Tryz.isAgg131 Tryz.sizeOf131 cRc (fun _ => rfl) oneR cmpR cmpR_swo 150 #[] g 0 cap d.toArray w (enters_of Tryz.func150 (by kernel_rfl) rfl) (sort_lays _ _ _ _) hH hlt (by simp; omega)
  simp only [List.size_toArray] at hcon
  refine hcon.mono ?_
  rintro e w' ⟨he, d', m, os, hp, hs, hw⟩
  obtain ⟨p1, _, p3⟩ := hp
  simp only [List.size_toArray] at p1
  have hd' : d'.extract 0 d.length = d' := by rw [← p1]; simp
  have hperm : d'.toList.Perm d := by
   rw [hd'] at p3
   simpa using p3
  have hfl' := flatK_list cRc 5 (fun _ => rfl) (by decide) d'
  have hlen' : d'.toList.length = d.length := by simpa using p1
  have hrp := row_put hrow (ys := d'.toList.flatMap cRc) (by rw [flat_len cRc 5 (fun _ => rfl), hlen']) m os
  have hwe : w' = grow (putRow id (Go.Sort.ahead w m) g 0 (d'.toList.flatMap cRc).toArray) os := by
   rw [hw, ← hfl']
   simp [sortWorldK, putRowK]
  rw [← hwe] at hrp
  refine ⟨he, d'.toList, hperm, ?_, h.rowTo i hi hrp.1 (hrp.2.mono fun b _ e => by cases e; rfl) (fun g' hg' => .inl hg'), hrp.2.size⟩
  rw [sortedR, List.pairwise_iff_getElem]
  intro x y hx hy hxy hlt2
  have := hs x y (Nat.zero_le _) hxy (by simpa [hlen'] using hy)
  rw [ltOf_R] at this
  have h3 := of_decide_eq_false this
  rw [getElem!_pos d' y (by simpa using hy), getElem!_pos d' x (by simpa using hx)] at h3
  exact h3 (by simpa using hlt2)
end Go.Proofs.YtbhglemolpfnkaaGreatDoor
