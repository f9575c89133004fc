/- The reference's cache of chapter 20: data, Len, time, thing, ahead, keep. Printed by wip/tools/gen20A.py. Tick, Put and AddNegative of the reference of chapter 20. Printed by wip/tools/gen20B.py. Lookup of the reference of chapter 20. Printed by wip/tools/gen20C.py. -/
import Derived.Test.YtapeljiopbkjlaaDoorRw
import Derived.Test.YtapeljiopbkjlaaDoorApg
namespace Go.Proofs.YtapeljiopbkjlaaDoor
open Go.RowKit Go.Sort
set_option linter.unusedVariables false
set_option maxRecDepth 100000

abbrev itA (e : En) : Array Value := #[.string e.nm, .int .i64 e.kd, .int .i64 0, .int .i64 e.ad, .string e.to, .int .i64 e.ex]
abbrev itV (e : En) : Value := .agg (itA e)
def cIt (e : En) : List Value := (itA e).toList
abbrev rowIt (v : Value) (l : List En) : Res := rowR v 77 6 l.length (l.flatMap cIt)
abbrev blkI (c : Nat) (v : Value) : Res := blkR c (.cells #[v] 29)
/-- The reference's cache c holds the entries l. -/
def resI (c : Nat) (l : List En) : Res := exR fun v : Value => sepR [blkI c v, rowIt v l]
section
variable {w0 w : World} {D : Nat → Prop} {L : List Res} {c : Nat} {l : List En}
theorem openI' (h : Own w0 D w (resI c l :: L)) : ∃ v, Own w0 D w (blkI c v :: rowIt v l :: L) := by
  obtain ⟨v, h⟩ := Own.openExC h
  exact ⟨v, Own.openC h⟩
theorem shutI' {v : Value} (h : Own w0 D w (blkI c v :: rowIt v l :: L)) : Own w0 D w (resI c l :: L) := Own.shutExC (f := fun v : Value => sepR [blkI c v, rowIt v l]) v (Own.shutC (Rs := [blkI c v, rowIt v l]) h)
end
theorem infoIt : (Tryd.prog.info? 77).map (fun i => (i.zero, i.size, i.bytes)) = some (some (.agg #[.string ⟨#[]⟩, .int .i64 0, .int .i64 0, .int .i64 0, .string ⟨#[]⟩, .int .i64 0]), 6, 64) := by kernel_rfl
theorem elemIt : Tryd.prog.underlying 27 = some (.slice (Tryd.prog.elem 27)) := by kernel_rfl
theorem sizeIt (w : World) : (sizeOf (Tryd.prog.elem 27)).run Tryd.prog w = .ok 6 w := by kernel_rfl
theorem run_bsIt0 (w : World) : (Instr.buildSlice 27 0 #[]).run Tryd.prog w = .ok (.slice (some ⟨w.heap.size, 0, none⟩) 0 0) (w.alloc (.cells #[] 77)) := by kernel_rfl
theorem run_bsIt (nm : ByteArray) (kd ad : Int) (to : ByteArray) (ex : Int) (w : World) : (Instr.buildSlice 27 1 #[(0, .agg #[.string nm, .int .i64 kd, .int .i64 0, .int .i64 ad, .string to, .int .i64 ex])]).run Tryd.prog w = .ok (.slice (some ⟨w.heap.size, 0, none⟩) 1 1) (w.alloc (.cells #[.string nm, .int .i64 kd, .int .i64 0, .int .i64 ad, .string to, .int .i64 ex] 77)) := by kernel_rfl
theorem oneIt (e : En) : ∀ u ∈ cIt e, u.oneCell' = true := by
  intro u hu; simp [cIt] at hu; rcases hu with h | h | h | h | h | h <;> (subst h; rfl)
theorem cIt_one (l : List En) : ∀ u ∈ l.flatMap cIt, u.oneCell' = true := by
  intro u hu
  obtain ⟨e, _, he⟩ := List.mem_flatMap.1 hu
  exact oneIt e u he
theorem flat_dropK {κ : Type} (kc : κ → List Value) (sz : Nat) (h : ∀ k, (kc k).length = sz) : ∀ (l : List κ) (j : Nat), (l.drop j).flatMap kc = (l.flatMap kc).drop (j * sz)
  | l, 0 => by simp
  | [], j + 1 => by simp
  | x :: l, j + 1 => by
    rw [List.drop_succ_cons, flat_dropK kc sz h l j, List.flatMap_cons, show (j + 1) * sz = sz + j * sz by rw [Nat.add_mul]; omega, ← List.drop_drop, List.drop_left' (h x)]
theorem erase_flatK {κ : Type} (kc : κ → List Value) (sz : Nat) (h : ∀ k, (kc k).length = sz) (l : List κ) (i : Nat) : (l.eraseIdx i).flatMap kc = (l.flatMap kc).take (i * sz) ++ (l.flatMap kc).drop ((i + 1) * sz) := by
  rw [List.eraseIdx_eq_take_drop_succ, List.flatMap_append, flat_take kc sz h, flat_dropK kc sz h]
def timB (now : Int) : Bool := decide (0 ≤ now) && decide (now ≤ 1000000000)
theorem time_any (now : Int) (w : World) : Calls Tryd.prog 46 #[.int .i64 now] w fun e w' => e = .returned (.bool (timB now)) ∧ w = w' := by
  unfold timB
  go_enter Tryd.func46, Tryd.ntmps46
  go_wp2
  all_goals (go_ret; refine ⟨ret_bool ?_, rfl⟩; first | (rw [Bool.eq_iff_iff]; done) | (rw [Bool.eq_iff_iff]; simp; done) | (rw [Bool.eq_iff_iff]; simp; omega))
theorem time_r {now : Int} {b : Bool} (h : timB now = b) (w : World) : Calls Tryd.prog 46 #[.int .i64 now] w fun e w' => e = .returned (.bool b) ∧ w = w' := h ▸ time_any now w
theorem ilen_o {w0 w : World} {D : Nat → Prop} {L : List Res} {c : Nat} {l : List En} (h : Own w0 D w L) (i : Nat) (hi : L[i]? = some (resI c l)) : Calls Tryd.prog 17 #[.pointer (some ⟨c, 0, none⟩)] w (OPost w0 D L (.int .i64 l.length) w) := by
  have hset : L.set i (resI c l) = L := set_same hi
  rw [← hset]
  refine o_one h hi fun D HO0 => ?_
  clear hset h hi
  obtain ⟨v, hO⟩ := openI' HO0
  obtain ⟨a, cap, rfl⟩ := row_shape (hO.row 1 rfl)
  have c1 : w.cell? ⟨c, 0, none⟩ = some (.slice a l.length cap) := hO.cell 0 rfl 0 rfl
  have HO := Lib.hid HO0
  clear HO0 hO
  go_enter Tryd.func17, Tryd.ntmps17
  go_wp2
  go_ret
  exact ⟨rfl, HO.out, Nat.le_refl _⟩
theorem ilen_r {w0 w : World} {D : Nat → Prop} {L : List Res} {c n : Nat} {l : List En} (h : Own w0 D w L) (i : Nat) (hi : L[i]? = some (resI c l)) (hn : l.length = n) : Calls Tryd.prog 17 #[.pointer (some ⟨c, 0, none⟩)] w (OPost w0 D L (.int .i64 n) w) := hn ▸ ilen_o h i hi
set_option maxHeartbeats 2000000 in
theorem thing_any (nm : ByteArray) (kd tt ad : Int) (to : ByteArray) (w : World) : Calls Tryd.prog 47 #[.agg #[.string nm, .int .i64 kd, .int .i64 tt, .int .i64 ad, .string to]] w (crPost (.agg #[.string nm, .int .i64 kd, .int .i64 0, .int .i64 ad, .string to]) w) := by
  have HO := Lib.hid (Own.nil w none0)
  obtain ⟨x1, hx1⟩ : ∃ y, w.alloc (.cells #[.string nm, .int .i64 kd, .int .i64 tt, .int .i64 ad, .string to] 34) = y := ⟨_, rfl⟩
  obtain ⟨bp, hbp⟩ : ∃ y, w.heap.size = y := ⟨_, rfl⟩
  have hO := HO.out.alloc (.cells #[.string nm, .int .i64 kd, .int .i64 tt, .int .i64 ad, .string to] 34)
  rw [hx1, hbp] at hO
  replace HO := Lib.hid (show Own w none0 x1 [blkR bp (.cells #[.string nm, .int .i64 kd, .int .i64 tt, .int .i64 ad, .string to] 34)] from hO)
  clear hO
  obtain ⟨x2, hx2⟩ : ∃ y, x1.alloc (.cells #[.string ⟨#[]⟩, .int .i64 0, .int .i64 0, .int .i64 0, .string ⟨#[]⟩] 34) = y := ⟨_, rfl⟩
  obtain ⟨br, hbr⟩ : ∃ y, x1.heap.size = y := ⟨_, rfl⟩
  have hO := HO.out.alloc (.cells #[.string ⟨#[]⟩, .int .i64 0, .int .i64 0, .int .i64 0, .string ⟨#[]⟩] 34)
  rw [hx2, hbr] at hO
  replace HO := Lib.hid (show Own w none0 x2 [blkR bp (.cells #[.string nm, .int .i64 kd, .int .i64 tt, .int .i64 ad, .string to] 34), blkR br (.cells #[.string ⟨#[]⟩, .int .i64 0, .int .i64 0, .int .i64 0, .string ⟨#[]⟩] 34)] from hO)
  clear hO
  have z0_2 : x2.cell? ⟨bp, 2, none⟩ = some (.int .i64 tt) := HO.out.cell 0 rfl 2 rfl
  have y0_2 : x2.frozen? ⟨bp, 2, none⟩ = false := HO.out.frz 0 rfl 2
  obtain ⟨x3, hx3⟩ : ∃ y, x2.setCell ⟨bp, 2, none⟩ (.int .i64 0) = y := ⟨_, rfl⟩
  have hO := HO.out.setCell 0 rfl 2 (.int .i64 0)
  rw [hx3] at hO
  replace HO := Lib.hid (show Own w none0 x3 [blkR bp (.cells #[.string nm, .int .i64 kd, .int .i64 0, .int .i64 ad, .string to] 34), blkR br (.cells #[.string ⟨#[]⟩, .int .i64 0, .int .i64 0, .int .i64 0, .string ⟨#[]⟩] 34)] from hO)
  clear hO
  have z0_0 : x3.cell? ⟨bp, 0, none⟩ = some (.string nm) := HO.out.cell 0 rfl 0 rfl
  have z0_1 : x3.cell? ⟨bp, 1, none⟩ = some (.int .i64 kd) := HO.out.cell 0 rfl 1 rfl
  have z0_2t : x3.cell? ⟨bp, 2, none⟩ = some (.int .i64 0) := HO.out.cell 0 rfl 2 rfl
  have z0_3 : x3.cell? ⟨bp, 3, none⟩ = some (.int .i64 ad) := HO.out.cell 0 rfl 3 rfl
  have z0_4 : x3.cell? ⟨bp, 4, none⟩ = some (.string to) := HO.out.cell 0 rfl 4 rfl
  have k1_0_4 : x3.cell? ⟨br, 0, none⟩ = some (.string ⟨#[]⟩) := HO.out.cell 1 rfl 0 rfl
  have lk1_0_4 : x3.frozen? ⟨br, 0, none⟩ = false := HO.out.frz 1 rfl 0
  have k1_1_5 : x3.cell? ⟨br, 1, none⟩ = some (.int .i64 0) := HO.out.cell 1 rfl 1 rfl
  have lk1_1_5 : x3.frozen? ⟨br, 1, none⟩ = false := HO.out.frz 1 rfl 1
  have k1_2_6 : x3.cell? ⟨br, 2, none⟩ = some (.int .i64 0) := HO.out.cell 1 rfl 2 rfl
  have lk1_2_6 : x3.frozen? ⟨br, 2, none⟩ = false := HO.out.frz 1 rfl 2
  have k1_3_7 : x3.cell? ⟨br, 3, none⟩ = some (.int .i64 0) := HO.out.cell 1 rfl 3 rfl
  have lk1_3_7 : x3.frozen? ⟨br, 3, none⟩ = false := HO.out.frz 1 rfl 3
  have k1_4_8 : x3.cell? ⟨br, 4, none⟩ = some (.string ⟨#[]⟩) := HO.out.cell 1 rfl 4 rfl
  have lk1_4_8 : x3.frozen? ⟨br, 4, none⟩ = false := HO.out.frz 1 rfl 4
  obtain ⟨x9, hx9⟩ : ∃ y, x3.setCell ⟨br, 0, none⟩ (.string nm) = y := ⟨_, rfl⟩
  have hO := HO.out.setCell 1 rfl 0 (.string nm)
  rw [hx9] at hO
  replace HO := Lib.hid (show Own w none0 x9 [blkR bp (.cells #[.string nm, .int .i64 kd, .int .i64 0, .int .i64 ad, .string to] 34), blkR br (.cells #[.string nm, .int .i64 0, .int .i64 0, .int .i64 0, .string ⟨#[]⟩] 34)] from hO)
  clear hO
  have k1_1_10 : x9.cell? ⟨br, 1, none⟩ = some (.int .i64 0) := HO.out.cell 1 rfl 1 rfl
  have lk1_1_10 : x9.frozen? ⟨br, 1, none⟩ = false := HO.out.frz 1 rfl 1
  have k1_2_11 : x9.cell? ⟨br, 2, none⟩ = some (.int .i64 0) := HO.out.cell 1 rfl 2 rfl
  have lk1_2_11 : x9.frozen? ⟨br, 2, none⟩ = false := HO.out.frz 1 rfl 2
  have k1_3_12 : x9.cell? ⟨br, 3, none⟩ = some (.int .i64 0) := HO.out.cell 1 rfl 3 rfl
  have lk1_3_12 : x9.frozen? ⟨br, 3, none⟩ = false := HO.out.frz 1 rfl 3
  have k1_4_13 : x9.cell? ⟨br, 4, none⟩ = some (.string ⟨#[]⟩) := HO.out.cell 1 rfl 4 rfl
  have lk1_4_13 : x9.frozen? ⟨br, 4, none⟩ = false := HO.out.frz 1 rfl 4
  obtain ⟨x14, hx14⟩ : ∃ y, x9.setCell ⟨br, 1, none⟩ (.int .i64 kd) = y := ⟨_, rfl⟩
  have hO := HO.out.setCell 1 rfl 1 (.int .i64 kd)
  rw [hx14] at hO
  replace HO := Lib.hid (show Own w none0 x14 [blkR bp (.cells #[.string nm, .int .i64 kd, .int .i64 0, .int .i64 ad, .string to] 34), blkR br (.cells #[.string nm, .int .i64 kd, .int .i64 0, .int .i64 0, .string ⟨#[]⟩] 34)] from hO)
  clear hO
  have k1_2_15 : x14.cell? ⟨br, 2, none⟩ = some (.int .i64 0) := HO.out.cell 1 rfl 2 rfl
  have lk1_2_15 : x14.frozen? ⟨br, 2, none⟩ = false := HO.out.frz 1 rfl 2
  have k1_3_16 : x14.cell? ⟨br, 3, none⟩ = some (.int .i64 0) := HO.out.cell 1 rfl 3 rfl
  have lk1_3_16 : x14.frozen? ⟨br, 3, none⟩ = false := HO.out.frz 1 rfl 3
  have k1_4_17 : x14.cell? ⟨br, 4, none⟩ = some (.string ⟨#[]⟩) := HO.out.cell 1 rfl 4 rfl
  have lk1_4_17 : x14.frozen? ⟨br, 4, none⟩ = false := HO.out.frz 1 rfl 4
  obtain ⟨x18, hx18⟩ : ∃ y, x14.setCell ⟨br, 2, none⟩ (.int .i64 0) = y := ⟨_, rfl⟩
  have hO := HO.out.setCell 1 rfl 2 (.int .i64 0)
  rw [hx18] at hO
  replace HO := Lib.hid (show Own w none0 x18 [blkR bp (.cells #[.string nm, .int .i64 kd, .int .i64 0, .int .i64 ad, .string to] 34), blkR br (.cells #[.string nm, .int .i64 kd, .int .i64 0, .int .i64 0, .string ⟨#[]⟩] 34)] from hO)
  clear hO
  have k1_3_19 : x18.cell? ⟨br, 3, none⟩ = some (.int .i64 0) := HO.out.cell 1 rfl 3 rfl
  have lk1_3_19 : x18.frozen? ⟨br, 3, none⟩ = false := HO.out.frz 1 rfl 3
  have k1_4_20 : x18.cell? ⟨br, 4, none⟩ = some (.string ⟨#[]⟩) := HO.out.cell 1 rfl 4 rfl
  have lk1_4_20 : x18.frozen? ⟨br, 4, none⟩ = false := HO.out.frz 1 rfl 4
  obtain ⟨x21, hx21⟩ : ∃ y, x18.setCell ⟨br, 3, none⟩ (.int .i64 ad) = y := ⟨_, rfl⟩
  have hO := HO.out.setCell 1 rfl 3 (.int .i64 ad)
  rw [hx21] at hO
  replace HO := Lib.hid (show Own w none0 x21 [blkR bp (.cells #[.string nm, .int .i64 kd, .int .i64 0, .int .i64 ad, .string to] 34), blkR br (.cells #[.string nm, .int .i64 kd, .int .i64 0, .int .i64 ad, .string ⟨#[]⟩] 34)] from hO)
  clear hO
  have k1_4_22 : x21.cell? ⟨br, 4, none⟩ = some (.string ⟨#[]⟩) := HO.out.cell 1 rfl 4 rfl
  have lk1_4_22 : x21.frozen? ⟨br, 4, none⟩ = false := HO.out.frz 1 rfl 4
  obtain ⟨x23, hx23⟩ : ∃ y, x21.setCell ⟨br, 4, none⟩ (.string to) = y := ⟨_, rfl⟩
  have hO := HO.out.setCell 1 rfl 4 (.string to)
  rw [hx23] at hO
  replace HO := Lib.hid (show Own w none0 x23 [blkR bp (.cells #[.string nm, .int .i64 kd, .int .i64 0, .int .i64 ad, .string to] 34), blkR br (.cells #[.string nm, .int .i64 kd, .int .i64 0, .int .i64 ad, .string to] 34)] from hO)
  clear hO
  have r0 : x23.cell? ⟨br, 0, none⟩ = some (.string nm) := HO.out.cell 1 rfl 0 rfl
  have r1 : x23.cell? ⟨br, 1, none⟩ = some (.int .i64 kd) := HO.out.cell 1 rfl 1 rfl
  have r2 : x23.cell? ⟨br, 2, none⟩ = some (.int .i64 0) := HO.out.cell 1 rfl 2 rfl
  have r3 : x23.cell? ⟨br, 3, none⟩ = some (.int .i64 ad) := HO.out.cell 1 rfl 3 rfl
  have r4 : x23.cell? ⟨br, 4, none⟩ = some (.string to) := HO.out.cell 1 rfl 4 rfl
  go_enter Tryd.func47, Tryd.ntmps47
  go_wp2
  exact bodyPost_ret (v := .agg #[.string nm, .int .i64 kd, .int .i64 0, .int .i64 ad, .string to]) (by simp [results, Tryd.results47, go_sem, r0, r1, r2, r3, r4]) rfl ⟨rfl, HO.out.below⟩
def ahdB (x y : Rc) : Bool := decide (ltR x y)
theorem ahd_k {x y : Rc} (h : (x.kd == y.kd) = false) : ahdB x y = decide (x.kd < y.kd) := by
  have h' : x.kd ≠ y.kd := by simpa using h
  unfold ahdB ltR
  simp [h']
theorem ahd_a {x y : Rc} (h : x.kd = y.kd) (h2 : (x.ad == y.ad) = false) : ahdB x y = decide (x.ad < y.ad) := by
  have h' : x.ad ≠ y.ad := by simpa using h2
  unfold ahdB ltR
  simp [h, h']
theorem ahd_t {x y : Rc} (h : x.kd = y.kd) (h2 : x.ad = y.ad) : ahdB x y = Op.bytesLess x.to.toList y.to.toList := by
  unfold ahdB ltR
  simp [h, h2]
set_option maxHeartbeats 2000000 in
theorem ahead_any (x y : Rc) (w : World) : Calls Tryd.prog 35 #[rcV x, rcV y] w (crPost (.bool (ahdB x y)) w) := by
  obtain ⟨x0, x1, x2, x3, x4⟩ := x
  obtain ⟨y0, y1, y2, y3, y4⟩ := y
  have HO := Lib.hid (Own.nil w none0)
  obtain ⟨x11, hx11⟩ : ∃ y, w.alloc (.cells #[.string x0, .int .i64 x1, .int .i64 x2, .int .i64 x3, .string x4] 34) = y := ⟨_, rfl⟩
  obtain ⟨bp, hbp⟩ : ∃ y, w.heap.size = y := ⟨_, rfl⟩
  have hO := HO.out.alloc (.cells #[.string x0, .int .i64 x1, .int .i64 x2, .int .i64 x3, .string x4] 34)
  rw [hx11, hbp] at hO
  replace HO := Lib.hid (show Own w none0 x11 [blkR bp (.cells #[.string x0, .int .i64 x1, .int .i64 x2, .int .i64 x3, .string x4] 34)] from hO)
  clear hO
  obtain ⟨x12, hx12⟩ : ∃ y, x11.alloc (.cells #[.string y0, .int .i64 y1, .int .i64 y2, .int .i64 y3, .string y4] 34) = y := ⟨_, rfl⟩
  obtain ⟨bq, hbq⟩ : ∃ y, x11.heap.size = y := ⟨_, rfl⟩
  have hO := HO.out.alloc (.cells #[.string y0, .int .i64 y1, .int .i64 y2, .int .i64 y3, .string y4] 34)
  rw [hx12, hbq] at hO
  replace HO := Lib.hid (show Own w none0 x12 [blkR bp (.cells #[.string x0, .int .i64 x1, .int .i64 x2, .int .i64 x3, .string x4] 34), blkR bq (.cells #[.string y0, .int .i64 y1, .int .i64 y2, .int .i64 y3, .string y4] 34)] from hO)
  clear hO
  have z0_0 : x12.cell? ⟨bp, 0, none⟩ = some (.string x0) := HO.out.cell 0 rfl 0 rfl
  have z0_1 : x12.cell? ⟨bp, 1, none⟩ = some (.int .i64 x1) := HO.out.cell 0 rfl 1 rfl
  have z0_2 : x12.cell? ⟨bp, 2, none⟩ = some (.int .i64 x2) := HO.out.cell 0 rfl 2 rfl
  have z0_3 : x12.cell? ⟨bp, 3, none⟩ = some (.int .i64 x3) := HO.out.cell 0 rfl 3 rfl
  have z0_4 : x12.cell? ⟨bp, 4, none⟩ = some (.string x4) := HO.out.cell 0 rfl 4 rfl
  have z1_0 : x12.cell? ⟨bq, 0, none⟩ = some (.string y0) := HO.out.cell 1 rfl 0 rfl
  have z1_1 : x12.cell? ⟨bq, 1, none⟩ = some (.int .i64 y1) := HO.out.cell 1 rfl 1 rfl
  have z1_2 : x12.cell? ⟨bq, 2, none⟩ = some (.int .i64 y2) := HO.out.cell 1 rfl 2 rfl
  have z1_3 : x12.cell? ⟨bq, 3, none⟩ = some (.int .i64 y3) := HO.out.cell 1 rfl 3 rfl
  have z1_4 : x12.cell? ⟨bq, 4, none⟩ = some (.string y4) := HO.out.cell 1 rfl 4 rfl
  cases hk : x1 == y1 with
  | false =>
    have HV := Lib.hid (ahd_k (x := ⟨x0, x1, x2, x3, x4⟩) (y := ⟨y0, y1, y2, y3, y4⟩) hk)
    go_enter Tryd.func35, Tryd.ntmps35
    go_wp2
    go_ret
    exact ⟨by rw [HV.out]; rfl, HO.out.below⟩
  | true =>
    obtain rfl : x1 = y1 := by simpa using hk
    clear hk
    cases ha : x3 == y3 with
    | false =>
      have HV := Lib.hid (ahd_a (x := ⟨x0, x1, x2, x3, x4⟩) (y := ⟨y0, x1, y2, y3, y4⟩) rfl ha)
      go_enter Tryd.func35, Tryd.ntmps35
      go_wp2
      go_ret
      exact ⟨by rw [HV.out]; rfl, HO.out.below⟩
    | true =>
      obtain rfl : x3 = y3 := by simpa using ha
      clear ha
      have HV := Lib.hid (ahd_t (x := ⟨x0, x1, x2, x3, x4⟩) (y := ⟨y0, x1, y2, x3, y4⟩) rfl rfl)
      go_enter Tryd.func35, Tryd.ntmps35
      go_wp2
      go_ret
      exact ⟨by rw [HV.out]; rfl, HO.out.below⟩
theorem ahead_r {x y : Rc} {b : Bool} (h : ahdB x y = b) (w : World) : Calls Tryd.prog 35 #[rcV x, rcV y] w fun e w' => e = .returned (.bool b) ∧ Below w.heap.size w w' := h ▸ ahead_any x y w
theorem leastTo_one (l : List En) : leastTo l 1 = 0 := by
  show (if _ then 0 else 0) = 0
  exact ite_self 0
theorem storeF_at {l : List En} {e : En} {n : Nat} (hn : l.length = n) : (n < 32 → storeF l e = l ++ [e]) ∧ (32 ≤ n → storeF l e = evictF l ++ [e]) := by
  subst hn
  unfold storeF
  exact ⟨fun h => by rw [if_neg (by omega)], fun h => by rw [if_pos h]⟩
set_option maxHeartbeats 8000000 in
theorem keep_o {w0 w : World} {D : Nat → Prop} {L : List Res} {c : Nat} {l : List En} {e : En} (h : Own w0 D w L) (i : Nat) (hi : L[i]? = some (resI c l)) (hl : l.length ≤ 32) :
    Calls Tryd.prog 48 #[.pointer (some ⟨c, 0, none⟩), itV e] w (OPost w0 D (L.set i (resI c (storeF l e))) (.tuple #[]) w) := by
  refine o_one h hi fun D HO0 => ?_
  clear h hi
  obtain ⟨v, hO⟩ := openI' HO0
  clear HO0
  obtain ⟨n, hn⟩ : ∃ n, l.length = n := ⟨_, rfl⟩
  have HN := Lib.hid hn
  have hO : Own w D w [blkI c v, rowR v 77 6 l.length (l.flatMap cIt)] := hO
  rw [hn] at hO hl
  have HSF := Lib.hid (storeF_at (e := e) hn)
  clear hn
  obtain ⟨a, cap, rfl⟩ := row_shape (hO.row 1 rfl)
  obtain ⟨nm, kd, ad, to, ex⟩ := e
  have HO := Lib.hid hO
  clear hO
  obtain ⟨x1, hx1⟩ : ∃ y, w.alloc (.cells #[.string nm, .int .i64 kd, .int .i64 0, .int .i64 ad, .string to, .int .i64 ex] 77) = y := ⟨_, rfl⟩
  obtain ⟨bi, hbi⟩ : ∃ y, w.heap.size = y := ⟨_, rfl⟩
  have hO := HO.out.alloc (.cells #[.string nm, .int .i64 kd, .int .i64 0, .int .i64 ad, .string to, .int .i64 ex] 77)
  rw [hx1, hbi] at hO
  replace HO := Lib.hid (show Own w D x1 [blkR c (.cells #[.slice a n cap] 29), rowR (.slice a n cap) 77 6 n (l.flatMap cIt), blkR bi (.cells #[.string nm, .int .i64 kd, .int .i64 0, .int .i64 ad, .string to, .int .i64 ex] 77)] from hO)
  clear hO
  go_enter Tryd.func48, Tryd.ntmps48
  by_cases h32 : n < 32
  · have hsf := HSF.out.1 h32
    have HE := Lib.hid hsf
    clear hsf HSF
    have hlen : decide ((32 : Int) ≤ (n : Int)) = false := by simp; omega
    have z0_0 : x1.cell? ⟨c, 0, none⟩ = some (.slice a n cap) := HO.out.cell 0 rfl 0 rfl
    go_wp2
    clear hx1 hbi z0_0
    generalize hΓ : ghS w D (apS [blkR c (.cells #[.slice a n cap] 29), rowR (.slice a n cap) 77 6 n (l.flatMap cIt), blkR bi (.cells #[.string nm, .int .i64 kd, .int .i64 0, .int .i64 ad, .string to, .int .i64 ex] 77)] 1 (cIt ⟨nm, kd, ad, to, ex⟩) 77 (fun v' => rowR v' 77 6 (n + 1) (l.flatMap cIt ++ cIt ⟨nm, kd, ad, to, ex⟩))) = Γ
    have HST := Lib.hid (show Γ.inv [] x1 by rw [← hΓ]; exact apS_start HO.out)
    have q0_0 : ∀ q : Γ.Wd, q.w.cell? ⟨c, 0, none⟩ = some (.slice a n cap) := by rw [← hΓ]; exact apS_cell (c := #[.slice a n cap]) (t := 29) 0 rfl (by decide) 0 rfl
    have q2_0 : ∀ q : Γ.Wd, q.w.cell? ⟨bi, 0, none⟩ = some (.string nm) := by rw [← hΓ]; exact apS_cell (c := #[.string nm, .int .i64 kd, .int .i64 0, .int .i64 ad, .string to, .int .i64 ex]) (t := 77) 2 rfl (by decide) 0 rfl
    have q2_1 : ∀ q : Γ.Wd, q.w.cell? ⟨bi, 1, none⟩ = some (.int .i64 kd) := by rw [← hΓ]; exact apS_cell (c := #[.string nm, .int .i64 kd, .int .i64 0, .int .i64 ad, .string to, .int .i64 ex]) (t := 77) 2 rfl (by decide) 1 rfl
    have q2_2 : ∀ q : Γ.Wd, q.w.cell? ⟨bi, 2, none⟩ = some (.int .i64 0) := by rw [← hΓ]; exact apS_cell (c := #[.string nm, .int .i64 kd, .int .i64 0, .int .i64 ad, .string to, .int .i64 ex]) (t := 77) 2 rfl (by decide) 2 rfl
    have q2_3 : ∀ q : Γ.Wd, q.w.cell? ⟨bi, 3, none⟩ = some (.int .i64 ad) := by rw [← hΓ]; exact apS_cell (c := #[.string nm, .int .i64 kd, .int .i64 0, .int .i64 ad, .string to, .int .i64 ex]) (t := 77) 2 rfl (by decide) 3 rfl
    have q2_4 : ∀ q : Γ.Wd, q.w.cell? ⟨bi, 4, none⟩ = some (.string to) := by rw [← hΓ]; exact apS_cell (c := #[.string nm, .int .i64 kd, .int .i64 0, .int .i64 ad, .string to, .int .i64 ex]) (t := 77) 2 rfl (by decide) 4 rfl
    have q2_5 : ∀ q : Γ.Wd, q.w.cell? ⟨bi, 5, none⟩ = some (.int .i64 ex) := by rw [← hΓ]; exact apS_cell (c := #[.string nm, .int .i64 kd, .int .i64 0, .int .i64 ad, .string to, .int .i64 ex]) (t := 77) 2 rfl (by decide) 5 rfl
    have HΓ := Lib.hid hΓ
    clear hΓ
    have ne : Nonempty Γ.Wd := ⟨⟨[], x1, HST.out⟩⟩
    refine wp_region_H Γ 10 [6, 7] (by kernel_rfl) (by kernel_rfl) (by kernel_rfl) (by kernel_rfl) HST.out ?_
    simp only [List.take, List.drop]
    iterate 6 (first | (refine wpH_want (by kernel_rfl) (by kernel_rfl) rfl rfl ?_; intro K hK; go_big_quiet_op; go_big_quiet_on) | (refine wpH_is (by kernel_rfl) (by kernel_rfl) rfl _ (fun _ w _ => rfl) ?_; simp only [Act.put, List.setIfInBounds_toArray, List.set_cons_succ, List.set_cons_zero]))
    refine wpH_chainX 0 (gnth 0) (gnth_lasts _ _) (by kernel_rfl) (by kernel_rfl) (fun a' g hg hgl he => ?_) (fun d hd => ?_)
    · obtain ⟨h25, _⟩ := he
      have h25' : a'.eval (.tmp 63) = .agg #[.string nm, .int .i64 kd, .int .i64 0, .int .i64 ad, .string to, .int .i64 ex] := h25
      refine wp_of_value (v := .slice (some ⟨g.w.heap.size, 0, none⟩) 1 1) (w' := g.w.alloc (.cells #[.string nm, .int .i64 kd, .int .i64 0, .int .i64 ad, .string to, .int .i64 ex] 77)) (run_v_ok ?_) ⟨_, rfl, ?_, ?_⟩
      · simp only [List.map_toArray, List.map_cons, List.map_nil, h25']
        exact run_bsIt _ _ _ _ _ _
      · rw [← HΓ.out] at hg ⊢
        exact apS_build hg hgl
      · have : g.vs = [] := List.eq_nil_of_length_eq_zero hgl
        rw [this]; rfl
    cases hd
    simp only [List.nil_append]
    refine wpH_chainX 1 (gnth 1) (gnth_lasts _ _) (by kernel_rfl) (by kernel_rfl) (fun a' g hg hgl he => ?_) (fun d hd => ?_)
    · obtain ⟨h24, h26, _⟩ := he
      rw [← HΓ.out] at hg ⊢
      exact apS_app (.tmp 62) (.tmp 64) 27 rfl Tryd.underlying27 infoIt rfl (by decide) rfl rfl (oneIt _) (by unfold maxLen; omega) (by omega) hg hgl h24 h26
    cases hd
    simp only [List.cons_append, List.nil_append]
    iterate 2 (first | (refine wpH_want (by kernel_rfl) (by kernel_rfl) rfl rfl ?_; intro K hK; go_big_quiet_op; go_big_quiet_on) | (refine wpH_is (by kernel_rfl) (by kernel_rfl) rfl _ (fun _ w _ => rfl) ?_; simp only [Act.put, List.setIfInBounds_toArray, List.set_cons_succ, List.set_cons_zero]))
    refine wpH_nil (by kernel_rfl) (by simp) ?_
    rintro ⟨vs, x5⟩ hg hgl
    rw [← HΓ.out] at hg
    obtain ⟨s, v, hvs, hO⟩ := apS_end hg hgl
    obtain rfl : vs = [s, v] := hvs
    simp only [gexAll]
    rintro u64 - u65 hu65
    obtain rfl : v = u65 := by simpa [gnth] using hu65
    simp only [List.drop]
    clear ne HST hg hgl HΓ hu65 q0_0 q2_0 q2_1 q2_2 q2_3 q2_4 q2_5
    replace HO := Lib.hid (show Own w D x5 [blkR c (.cells #[.slice a n cap] 29), rowR v 77 6 (n + 1) (l.flatMap cIt ++ cIt ⟨nm, kd, ad, to, ex⟩), blkR bi (.cells #[.string nm, .int .i64 kd, .int .i64 0, .int .i64 ad, .string to, .int .i64 ex] 77)] from hO)
    clear hO
    obtain ⟨va, vc, rfl⟩ := row_shape (HO.out.row 1 rfl)
    obtain ⟨vn, hvn⟩ : ∃ y, n + 1 = y := ⟨_, rfl⟩
    have HVN := Lib.hid hvn
    rw [hvn] at HO ⊢
    clear hvn
    have z0_0 : x5.cell? ⟨c, 0, none⟩ = some (.slice a n cap) := HO.out.cell 0 rfl 0 rfl
    have y0_0 : x5.frozen? ⟨c, 0, none⟩ = false := HO.out.frz 0 rfl 0
    obtain ⟨x91, hx91⟩ : ∃ y, x5.setCell ⟨c, 0, none⟩ (.slice va vn vc) = y := ⟨_, rfl⟩
    have hO := HO.out.setCell 0 rfl 0 (.slice va vn vc)
    rw [hx91] at hO
    replace HO := Lib.hid (show Own w D x91 [blkR c (.cells #[.slice va vn vc] 29), rowR (.slice va vn vc) 77 6 vn (l.flatMap cIt ++ cIt ⟨nm, kd, ad, to, ex⟩), blkR bi (.cells #[.string nm, .int .i64 kd, .int .i64 0, .int .i64 ad, .string to, .int .i64 ex] 77)] from hO)
    clear hO
    go_wp2
    have hO := HO.out.take 2
    have hO2 : Own w D x91 [blkI c (.slice va vn vc), rowIt (.slice va vn vc) (storeF l ⟨nm, kd, ad, to, ex⟩)] := by
      rw [HE.out]
      show Own w D x91 [blkI c (.slice va vn vc), rowR (.slice va vn vc) _ 6 _ _]
      rw [List.flatMap_append, List.length_append, List.flatMap_cons, List.flatMap_nil, List.append_nil, List.length_singleton, HN.out, HVN.out]
      exact hO
    refine bodyPost_ret (results_none rfl _ _ _) rfl ?_
    exact ⟨rfl, shutI' hO2, hO2.size⟩
  · obtain rfl : n = 32 := by omega
    have hsf := HSF.out.2 (by omega)
    have HE := Lib.hid hsf
    clear hsf HSF
    obtain ⟨g, rfl⟩ := row_some (HO.out.row 1 rfl) (by omega)
    have HLL := Lib.hid (leastTo_lt (l := l) (by have := HN.out; omega))
    have z0_0 : x1.cell? ⟨c, 0, none⟩ = some (.slice (some ⟨g, 0, none⟩) 32 cap) := HO.out.cell 0 rfl 0 rfl
    go_wp2
    clear hx1 hbi z0_0
    go_loopw [4, 5] (fun lv kv wr => ∃ k : Nat, 1 ≤ k ∧ k ≤ 32 ∧ lv = .int .i64 (leastTo l k : Nat) ∧ kv = .int .i64 k ∧ Own w D wr [blkR c (.cells #[.slice (some ⟨g, 0, none⟩) 32 cap] 29), rowR (.slice (some ⟨g, 0, none⟩) 32 cap) 77 6 32 (l.flatMap cIt), blkR bi (.cells #[.string nm, .int .i64 kd, .int .i64 0, .int .i64 ad, .string to, .int .i64 ex] 77)]) (fun _ kv _ => 32 - (intOf kv).toNat)
    case atStart => exact ⟨1, Nat.le_refl _, by decide, by rw [leastTo_one]; rfl, rfl, HO.out⟩
    case round =>
      obtain ⟨k, hk1, hk, rfl, rfl, hO⟩ := hrel
      replace HO := Lib.hid hO
      clear hO
      have hlt2 : leastTo l k < 32 := by have := HLL.out k (by have := HN.out; omega); have := HN.out; omega
      have HLS := Lib.hid (show leastTo l (k + 1) = if (l.getD k ⟨⟨#[]⟩, 0, 0, ⟨#[]⟩, 0⟩).ex < (l.getD (leastTo l k) ⟨⟨#[]⟩, 0, 0, ⟨#[]⟩, 0⟩).ex then k else leastTo l k from rfl)
      by_cases hlt : k < 32
      · obtain ⟨q, hq⟩ : ∃ q, leastTo l k = q := ⟨_, rfl⟩
        rw [hq] at HLS hlt2 ⊢
        clear hq
        have hrw := HO.out.row 1 rfl
        have hkl : k < l.length := by have := HN.out; omega
        have hql : q < l.length := by have := HN.out; omega
        rw [getD_eq hkl, getD_eq hql] at HLS
        have c1 : wr.cell? ⟨c, 0, none⟩ = some (.slice (some ⟨g, 0, none⟩) 32 cap) := HO.out.cell 0 rfl 0 rfl
        have yk : wr.cell? ⟨g, k * 6 + 5, none⟩ = some (.int .i64 l[k].ex) := (row_cells hrw).1 _ _ (by rw [flat_getR cIt 6 (fun _ => rfl) l k hkl 5 (by decide)]; rfl)
        have yq : wr.cell? ⟨g, q * 6 + 5, none⟩ = some (.int .i64 l[q].ex) := (row_cells hrw).1 _ _ (by rw [flat_getR cIt 6 (fun _ => rfl) l q hql 5 (by decide)]; rfl)
        generalize l[q].ex = qx at *
        generalize l[k].ex = kx at *
        clear hrw hkl hql
        have g1 := cell_regrown c1
        have gk := cell_regrown yk
        have gq := cell_regrown yq
        go_wp2
        refine wp_region_B (by kernel_rfl) (by kernel_rfl) ?_
        repeat (go_big_quiet_step (fail))
        refine wpQuiet_nil ?_
        intro x91 hbw
        have hO := HO.out.stay hbw
        clear g1 gk gq c1 yk yq
        replace HO := Lib.hid (show Own w D x91 [blkR c (.cells #[.slice (some ⟨g, 0, none⟩) 32 cap] 29), rowR (.slice (some ⟨g, 0, none⟩) 32 cap) 77 6 32 (l.flatMap cIt), blkR bi (.cells #[.string nm, .int .i64 kd, .int .i64 0, .int .i64 ad, .string to, .int .i64 ex] 77)] from hO)
        clear hO hbw
        by_cases hd : kx < qx
        · rw [if_pos hd] at HLS
          go_wp2
          go_roundw
          case rel => exact ⟨k + 1, by omega, by omega, by rw [HLS.out], by go_num, HO.out⟩
          case measure => simp [intOf]; omega
        · rw [if_neg hd] at HLS
          replace hd : qx ≤ kx := by omega
          go_wp2
          go_roundw
          case rel => exact ⟨k + 1, by omega, by omega, by rw [HLS.out], by go_num, HO.out⟩
          case measure => simp [intOf]; omega
      · obtain rfl : k = 32 := by omega
        clear HLS
        have HEV := Lib.hid (show evictF l = l.eraseIdx (leastTo l 32) by unfold evictF; rw [HN.out])
        obtain ⟨q, hq⟩ : ∃ q, leastTo l 32 = q := ⟨_, rfl⟩
        rw [hq] at HEV hlt2 ⊢
        clear hq
        have HXL := Lib.hid (show (l.flatMap cIt).length = 32 * 6 from (HO.out.row 1 rfl).1)
        obtain ⟨u1, hu1, hr1⟩ := row_upto (P := Tryd.prog) 27 elemIt sizeIt (HO.out.row 1 rfl) q (by omega)
        obtain ⟨u2, hu2, hr2⟩ := row_from (P := Tryd.prog) 27 elemIt sizeIt (HO.out.row 1 rfl) (q + 1) (by omega)
        have HU1 := Lib.hid hu1
        have HU2 := Lib.hid hu2
        have HR1 := Lib.hid hr1
        have HR2 := Lib.hid hr2
        clear hu1 hu2 hr1 hr2
        have z0_0 : wr.cell? ⟨c, 0, none⟩ = some (.slice (some ⟨g, 0, none⟩) 32 cap) := HO.out.cell 0 rfl 0 rfl
        go_wp2
        clear z0_0
        generalize hΓ : ghA w D [blkR c (.cells #[.slice (some ⟨g, 0, none⟩) 32 cap] 29), rowR (.slice (some ⟨g, 0, none⟩) 32 cap) 77 6 32 (l.flatMap cIt), blkR bi (.cells #[.string nm, .int .i64 kd, .int .i64 0, .int .i64 ad, .string to, .int .i64 ex] 77)] 77 6 (.slice none 0 0) [(0, []), (0, []), (0 + q, [] ++ (l.flatMap cIt).take (q * 6)), (0 + q + (32 - (q + 1)), [] ++ (l.flatMap cIt).take (q * 6) ++ (l.flatMap cIt).drop ((q + 1) * 6))] = Γ
        have HST := Lib.hid (show Γ.inv [] wr by rw [← hΓ]; exact ghA_start (HO.out.rowNew 77 6))
        have q0_0 : ∀ q : Γ.Wd, q.w.cell? ⟨c, 0, none⟩ = some (.slice (some ⟨g, 0, none⟩) 32 cap) := by rw [← hΓ]; exact ghA_cell (c := #[.slice (some ⟨g, 0, none⟩) 32 cap]) (t := 29) 0 rfl 0 rfl
        have HΓ := Lib.hid hΓ
        clear hΓ
        have ne : Nonempty Γ.Wd := ⟨⟨[], wr, HST.out⟩⟩
        refine wp_region_H Γ 19 [1, 8, 16] (by kernel_rfl) (by kernel_rfl) (by kernel_rfl) (by kernel_rfl) HST.out ?_
        simp only [List.take, List.drop]
        iterate 1 (first | (refine wpH_want (by kernel_rfl) (by kernel_rfl) rfl rfl ?_; intro K hK; go_big_quiet_op; go_big_quiet_on) | (refine wpH_is (by kernel_rfl) (by kernel_rfl) rfl _ (fun _ w _ => rfl) ?_; simp only [Act.put, List.setIfInBounds_toArray, List.set_cons_succ, List.set_cons_zero]))
        refine wpH_chainX 0 (gnth 0) (gnth_lasts _ _) (by kernel_rfl) (by kernel_rfl) (fun a' g hg hgl he => ?_) (fun d hd => ?_)
        · refine wp_of_value (v := .slice (some ⟨g.w.heap.size, 0, none⟩) 0 0) (w' := g.w.alloc (.cells #[] 77)) (run_v_ok (by simp only [List.map_toArray, List.map_nil]; exact run_bsIt0 _)) ⟨_, rfl, ?_, ?_⟩
          · rw [← HΓ.out] at hg ⊢
            exact ghA_lit hg hgl
          · have : g.vs = [] := List.eq_nil_of_length_eq_zero hgl
            rw [this]; rfl
        cases hd
        simp only [List.nil_append]
        iterate 5 (first | (refine wpH_want (by kernel_rfl) (by kernel_rfl) rfl rfl ?_; intro K hK; go_big_quiet_op; go_big_quiet_on) | (refine wpH_is (by kernel_rfl) (by kernel_rfl) rfl _ (fun _ w _ => rfl) ?_; simp only [Act.put, List.setIfInBounds_toArray, List.set_cons_succ, List.set_cons_zero]))
        refine wpH_is (by kernel_rfl) (by kernel_rfl) rfl (u1) (fun _ w _ => run_v_ok (HU1.out w)) ?_
        simp only [Act.put, List.setIfInBounds_toArray, List.set_cons_succ, List.set_cons_zero]
        refine wpH_chainX 1 (gnth 1) (gnth_lasts _ _) (by kernel_rfl) (by kernel_rfl) (fun a' g hg hgl he => ?_) (fun d hd => ?_)
        · obtain ⟨hs, hx, _⟩ := he
          rw [← HΓ.out] at hg ⊢
          have hs' : a'.eval (.tmp 40) = g.vs.getLastD (.slice none 0 0) := (ghA_last (k := 0) (vs := g.vs) (w := g.w) hs hgl).symm
          have hR : Reads g.w (a'.eval (.tmp 46)) q ((l.flatMap cIt).take (q * 6)) := by
            have hx' : a'.eval (.tmp 46) = u1 := hx
            rw [hx']
            exact HR1.out g.w _ ((ghA_rest hg).row 1 rfl)
          exact ghA_app 1 (.tmp 40) (.tmp 46) 27 rfl Tryd.underlying27 infoIt rfl (by decide) rfl rfl (by have := HXL.out; rw [List.length_take]; omega) (fun u hu => cIt_one l u (List.mem_of_mem_take hu)) (by unfold maxLen; omega) (by omega) hg hgl hs' hR
        cases hd
        simp only [List.cons_append, List.nil_append]
        iterate 6 (first | (refine wpH_want (by kernel_rfl) (by kernel_rfl) rfl rfl ?_; intro K hK; go_big_quiet_op; go_big_quiet_on) | (refine wpH_is (by kernel_rfl) (by kernel_rfl) rfl _ (fun _ w _ => rfl) ?_; simp only [Act.put, List.setIfInBounds_toArray, List.set_cons_succ, List.set_cons_zero]))
        refine wpH_is (by kernel_rfl) (by kernel_rfl) rfl (u2) (fun _ w _ => run_v_ok (HU2.out w)) ?_
        simp only [Act.put, List.setIfInBounds_toArray, List.set_cons_succ, List.set_cons_zero]
        refine wpH_chainX 2 (gnth 2) (gnth_lasts _ _) (by kernel_rfl) (by kernel_rfl) (fun a' g hg hgl he => ?_) (fun d hd => ?_)
        · obtain ⟨hs, hx, _⟩ := he
          rw [← HΓ.out] at hg ⊢
          have hs' : a'.eval (.tmp 47) = g.vs.getLastD (.slice none 0 0) := (ghA_last (k := 1) (vs := g.vs) (w := g.w) hs hgl).symm
          have hR : Reads g.w (a'.eval (.tmp 54)) (32 - (q + 1)) ((l.flatMap cIt).drop ((q + 1) * 6)) := by
            have hx' : a'.eval (.tmp 54) = u2 := hx
            rw [hx']
            exact HR2.out g.w _ ((ghA_rest hg).row 1 rfl)
          exact ghA_app 2 (.tmp 47) (.tmp 54) 27 rfl Tryd.underlying27 infoIt rfl (by decide) rfl rfl (by have := HXL.out; rw [List.length_drop]; omega) (fun u hu => cIt_one l u (List.mem_of_mem_drop hu)) (by unfold maxLen; omega) (by omega) hg hgl hs' hR
        cases hd
        simp only [List.cons_append, List.nil_append]
        iterate 2 (first | (refine wpH_want (by kernel_rfl) (by kernel_rfl) rfl rfl ?_; intro K hK; go_big_quiet_op; go_big_quiet_on) | (refine wpH_is (by kernel_rfl) (by kernel_rfl) rfl _ (fun _ w _ => rfl) ?_; simp only [Act.put, List.setIfInBounds_toArray, List.set_cons_succ, List.set_cons_zero]))
        refine wpH_nil (by kernel_rfl) (by simp) ?_
        rintro ⟨vs, x6⟩ hg hgl
        rw [← HΓ.out] at hg
        simp only [gexAll, List.drop]
        rintro u40 -
        rintro u47 -
        rintro u55 hlast
        simp only [Act.put, List.setIfInBounds_toArray, List.set_cons_succ, List.set_cons_zero]
        have hO := ghA_at hg 3 hgl rfl
        rw [ghA_last (k := 2) hlast hgl] at hO
        simp only [List.cons_append, List.nil_append] at hO
        replace HO := Lib.hid (show Own w D x6 [blkR c (.cells #[.slice (some ⟨g, 0, none⟩) 32 cap] 29), rowR (.slice (some ⟨g, 0, none⟩) 32 cap) 77 6 32 (l.flatMap cIt), blkR bi (.cells #[.string nm, .int .i64 kd, .int .i64 0, .int .i64 ad, .string to, .int .i64 ex] 77), rowR u55 77 6 (0 + q + (32 - (q + 1))) ([] ++ (l.flatMap cIt).take (q * 6) ++ (l.flatMap cIt).drop ((q + 1) * 6))] from hO)
        clear q0_0 ne HST hg hgl HΓ hlast hO
        have e1 : 0 + q + (32 - (q + 1)) = 31 := by omega
        have e2 : [] ++ (l.flatMap cIt).take (q * 6) ++ (l.flatMap cIt).drop ((q + 1) * 6) = (evictF l).flatMap cIt := by rw [HEV.out, erase_flatK cIt 6 (fun _ => rfl), List.nil_append]
        have hO := HO.out
        rw [e1, e2] at hO
        have hEL : (evictF l).length = 31 := by rw [HEV.out, List.length_eraseIdx, if_pos (by have := HN.out; omega)]; have := HN.out; omega
        have HEL := Lib.hid hEL
        clear e1 e2 hEL HO
        obtain ⟨a3, cap3, rfl⟩ := row_shape (hO.row 3 rfl)
        have HO := Lib.hid hO
        clear hO
        have z0_0 : x6.cell? ⟨c, 0, none⟩ = some (.slice (some ⟨g, 0, none⟩) 32 cap) := HO.out.cell 0 rfl 0 rfl
        have y0_0 : x6.frozen? ⟨c, 0, none⟩ = false := HO.out.frz 0 rfl 0
        obtain ⟨x61, hx61⟩ : ∃ y, x6.setCell ⟨c, 0, none⟩ (.slice a3 31 cap3) = y := ⟨_, rfl⟩
        have hO := HO.out.setCell 0 rfl 0 (.slice a3 31 cap3)
        rw [hx61] at hO
        replace HO := Lib.hid (show Own w D x61 [blkR c (.cells #[.slice a3 31 cap3] 29), rowR (.slice (some ⟨g, 0, none⟩) 32 cap) 77 6 32 (l.flatMap cIt), blkR bi (.cells #[.string nm, .int .i64 kd, .int .i64 0, .int .i64 ad, .string to, .int .i64 ex] 77), rowR (.slice a3 31 cap3) 77 6 31 ((evictF l).flatMap cIt)] from hO)
        clear hO
        go_wp2
        clear z0_0 y0_0 hx61
        have hO2 := HO.out.pick [0, 3, 2] (by decide) (L' := [blkR c (.cells #[.slice a3 31 cap3] 29), rowR (.slice a3 31 cap3) 77 6 31 ((evictF l).flatMap cIt), blkR bi (.cells #[.string nm, .int .i64 kd, .int .i64 0, .int .i64 ad, .string to, .int .i64 ex] 77)]) (fun k R hk => by
          match k, hk with
          | 0, hk => exact ⟨0, rfl, hk⟩
          | 1, hk => exact ⟨3, rfl, hk⟩
          | 2, hk => exact ⟨2, rfl, hk⟩)
        replace HO := Lib.hid (show Own w D x61 [blkR c (.cells #[.slice a3 31 cap3] 29), rowR (.slice a3 31 cap3) 77 6 31 ((evictF l).flatMap cIt), blkR bi (.cells #[.string nm, .int .i64 kd, .int .i64 0, .int .i64 ad, .string to, .int .i64 ex] 77)] from hO2)
        clear hO2
        have z0_0 : x61.cell? ⟨c, 0, none⟩ = some (.slice a3 31 cap3) := HO.out.cell 0 rfl 0 rfl
        go_wp2
        clear z0_0
        generalize hΓ : ghS w D (apS [blkR c (.cells #[.slice a3 31 cap3] 29), rowR (.slice a3 31 cap3) 77 6 31 ((evictF l).flatMap cIt), blkR bi (.cells #[.string nm, .int .i64 kd, .int .i64 0, .int .i64 ad, .string to, .int .i64 ex] 77)] 1 (cIt ⟨nm, kd, ad, to, ex⟩) 77 (fun v' => rowR v' 77 6 (31 + 1) ((evictF l).flatMap cIt ++ cIt ⟨nm, kd, ad, to, ex⟩))) = Γ
        have HST := Lib.hid (show Γ.inv [] x61 by rw [← hΓ]; exact apS_start HO.out)
        have q0_0 : ∀ q : Γ.Wd, q.w.cell? ⟨c, 0, none⟩ = some (.slice a3 31 cap3) := by rw [← hΓ]; exact apS_cell (c := #[.slice a3 31 cap3]) (t := 29) 0 rfl (by decide) 0 rfl
        have q2_0 : ∀ q : Γ.Wd, q.w.cell? ⟨bi, 0, none⟩ = some (.string nm) := by rw [← hΓ]; exact apS_cell (c := #[.string nm, .int .i64 kd, .int .i64 0, .int .i64 ad, .string to, .int .i64 ex]) (t := 77) 2 rfl (by decide) 0 rfl
        have q2_1 : ∀ q : Γ.Wd, q.w.cell? ⟨bi, 1, none⟩ = some (.int .i64 kd) := by rw [← hΓ]; exact apS_cell (c := #[.string nm, .int .i64 kd, .int .i64 0, .int .i64 ad, .string to, .int .i64 ex]) (t := 77) 2 rfl (by decide) 1 rfl
        have q2_2 : ∀ q : Γ.Wd, q.w.cell? ⟨bi, 2, none⟩ = some (.int .i64 0) := by rw [← hΓ]; exact apS_cell (c := #[.string nm, .int .i64 kd, .int .i64 0, .int .i64 ad, .string to, .int .i64 ex]) (t := 77) 2 rfl (by decide) 2 rfl
        have q2_3 : ∀ q : Γ.Wd, q.w.cell? ⟨bi, 3, none⟩ = some (.int .i64 ad) := by rw [← hΓ]; exact apS_cell (c := #[.string nm, .int .i64 kd, .int .i64 0, .int .i64 ad, .string to, .int .i64 ex]) (t := 77) 2 rfl (by decide) 3 rfl
        have q2_4 : ∀ q : Γ.Wd, q.w.cell? ⟨bi, 4, none⟩ = some (.string to) := by rw [← hΓ]; exact apS_cell (c := #[.string nm, .int .i64 kd, .int .i64 0, .int .i64 ad, .string to, .int .i64 ex]) (t := 77) 2 rfl (by decide) 4 rfl
        have q2_5 : ∀ q : Γ.Wd, q.w.cell? ⟨bi, 5, none⟩ = some (.int .i64 ex) := by rw [← hΓ]; exact apS_cell (c := #[.string nm, .int .i64 kd, .int .i64 0, .int .i64 ad, .string to, .int .i64 ex]) (t := 77) 2 rfl (by decide) 5 rfl
        have HΓ := Lib.hid hΓ
        clear hΓ
        have ne : Nonempty Γ.Wd := ⟨⟨[], x61, HST.out⟩⟩
        refine wp_region_H Γ 10 [6, 7] (by kernel_rfl) (by kernel_rfl) (by kernel_rfl) (by kernel_rfl) HST.out ?_
        simp only [List.take, List.drop]
        iterate 6 (first | (refine wpH_want (by kernel_rfl) (by kernel_rfl) rfl rfl ?_; intro K hK; go_big_quiet_op; go_big_quiet_on) | (refine wpH_is (by kernel_rfl) (by kernel_rfl) rfl _ (fun _ w _ => rfl) ?_; simp only [Act.put, List.setIfInBounds_toArray, List.set_cons_succ, List.set_cons_zero]))
        refine wpH_chainX 0 (gnth 0) (gnth_lasts _ _) (by kernel_rfl) (by kernel_rfl) (fun a' g hg hgl he => ?_) (fun d hd => ?_)
        · obtain ⟨h25, _⟩ := he
          have h25' : a'.eval (.tmp 63) = .agg #[.string nm, .int .i64 kd, .int .i64 0, .int .i64 ad, .string to, .int .i64 ex] := h25
          refine wp_of_value (v := .slice (some ⟨g.w.heap.size, 0, none⟩) 1 1) (w' := g.w.alloc (.cells #[.string nm, .int .i64 kd, .int .i64 0, .int .i64 ad, .string to, .int .i64 ex] 77)) (run_v_ok ?_) ⟨_, rfl, ?_, ?_⟩
          · simp only [List.map_toArray, List.map_cons, List.map_nil, h25']
            exact run_bsIt _ _ _ _ _ _
          · rw [← HΓ.out] at hg ⊢
            exact apS_build hg hgl
          · have : g.vs = [] := List.eq_nil_of_length_eq_zero hgl
            rw [this]; rfl
        cases hd
        simp only [List.nil_append]
        refine wpH_chainX 1 (gnth 1) (gnth_lasts _ _) (by kernel_rfl) (by kernel_rfl) (fun a' g hg hgl he => ?_) (fun d hd => ?_)
        · obtain ⟨h24, h26, _⟩ := he
          rw [← HΓ.out] at hg ⊢
          exact apS_app (.tmp 62) (.tmp 64) 27 rfl Tryd.underlying27 infoIt rfl (by decide) rfl rfl (oneIt _) (by unfold maxLen; omega) (by omega) hg hgl h24 h26
        cases hd
        simp only [List.cons_append, List.nil_append]
        iterate 2 (first | (refine wpH_want (by kernel_rfl) (by kernel_rfl) rfl rfl ?_; intro K hK; go_big_quiet_op; go_big_quiet_on) | (refine wpH_is (by kernel_rfl) (by kernel_rfl) rfl _ (fun _ w _ => rfl) ?_; simp only [Act.put, List.setIfInBounds_toArray, List.set_cons_succ, List.set_cons_zero]))
        refine wpH_nil (by kernel_rfl) (by simp) ?_
        rintro ⟨vs, x5⟩ hg hgl
        rw [← HΓ.out] at hg
        obtain ⟨s, v, hvs, hO⟩ := apS_end hg hgl
        obtain rfl : vs = [s, v] := hvs
        simp only [gexAll]
        rintro u64 - u65 hu65
        obtain rfl : v = u65 := by simpa [gnth] using hu65
        simp only [List.drop]
        clear ne HST hg hgl HΓ hu65 q0_0 q2_0 q2_1 q2_2 q2_3 q2_4 q2_5
        replace HO := Lib.hid (show Own w D x5 [blkR c (.cells #[.slice a3 31 cap3] 29), rowR v 77 6 (31 + 1) ((evictF l).flatMap cIt ++ cIt ⟨nm, kd, ad, to, ex⟩), blkR bi (.cells #[.string nm, .int .i64 kd, .int .i64 0, .int .i64 ad, .string to, .int .i64 ex] 77)] from hO)
        clear hO
        obtain ⟨va, vc, rfl⟩ := row_shape (HO.out.row 1 rfl)
        obtain ⟨vn, hvn⟩ : ∃ y, 31 + 1 = y := ⟨_, rfl⟩
        have HVN := Lib.hid hvn
        rw [hvn] at HO ⊢
        clear hvn
        have z0_0 : x5.cell? ⟨c, 0, none⟩ = some (.slice a3 31 cap3) := HO.out.cell 0 rfl 0 rfl
        have y0_0 : x5.frozen? ⟨c, 0, none⟩ = false := HO.out.frz 0 rfl 0
        obtain ⟨x91, hx91⟩ : ∃ y, x5.setCell ⟨c, 0, none⟩ (.slice va vn vc) = y := ⟨_, rfl⟩
        have hO := HO.out.setCell 0 rfl 0 (.slice va vn vc)
        rw [hx91] at hO
        replace HO := Lib.hid (show Own w D x91 [blkR c (.cells #[.slice va vn vc] 29), rowR (.slice va vn vc) 77 6 vn ((evictF l).flatMap cIt ++ cIt ⟨nm, kd, ad, to, ex⟩), blkR bi (.cells #[.string nm, .int .i64 kd, .int .i64 0, .int .i64 ad, .string to, .int .i64 ex] 77)] from hO)
        clear hO
        go_wp2
        have hO := HO.out.take 2
        have hO2 : Own w D x91 [blkI c (.slice va vn vc), rowIt (.slice va vn vc) (storeF l ⟨nm, kd, ad, to, ex⟩)] := by
          rw [HE.out]
          show Own w D x91 [blkI c (.slice va vn vc), rowR (.slice va vn vc) _ 6 _ _]
          rw [List.flatMap_append, List.length_append, List.flatMap_cons, List.flatMap_nil, List.append_nil, List.length_singleton, HEL.out, HVN.out]
          exact hO
        refine bodyPost_ret (results_none rfl _ _ _) rfl ?_
        exact ⟨rfl, shutI' hO2, hO2.size⟩

end Go.Proofs.YtapeljiopbkjlaaDoor

namespace Go.Proofs.YtapeljiopbkjlaaDoor
open Go.RowKit Go.Sort
set_option linter.unusedVariables false
set_option maxRecDepth 100000

theorem filt_yes {α : Type} {l : List α} {k : Nat} {p : α → Bool} (hk : k < l.length) (h : p l[k] = true) : (l.take (k + 1)).filter p = (l.take k).filter p ++ [l[k]] := by
  rw [List.take_succ_eq_append_getElem hk, List.filter_append]; simp [h]
theorem filt_no {α : Type} {l : List α} {k : Nat} {p : α → Bool} (hk : k < l.length) (h : p l[k] = false) : (l.take (k + 1)).filter p = (l.take k).filter p := by
  rw [List.take_succ_eq_append_getElem hk, List.filter_append]; simp [h]
theorem filt_tk {α : Type} (l : List α) (k : Nat) (p : α → Bool) : ((l.take k).filter p).length ≤ k := by
  have := List.length_filter_le p (l.take k)
  rw [List.length_take] at this; omega
def refP (r : Rc) (x : En) : Bool := ((x.kd == 0) && (x.nm.toList == r.nm.toList)) || rcEq ⟨x.nm, x.kd, 0, x.ad, x.to⟩ ⟨r.nm, r.kd, 0, r.ad, r.to⟩
def putRF (now : Int) (r : Rc) (l : List En) : List En := if recB now r && decide (r.tt ≠ 0) then storeF (l.filter fun x => !refP r x) ⟨r.nm, r.kd, r.ad, r.to, now + r.tt⟩ else l
theorem run_bIt (nm : ByteArray) (kd tt ad : Int) (to : ByteArray) (ex : Int) (w : World) : (Instr.build 77 #[(0, .agg #[.string nm, .int .i64 kd, .int .i64 tt, .int .i64 ad, .string to]), (1, .int .i64 ex)]).run Tryd.prog w = .ok (.agg #[.string nm, .int .i64 kd, .int .i64 tt, .int .i64 ad, .string to, .int .i64 ex]) w := by kernel_rfl
theorem run_bRn (nm : ByteArray) (w : World) : (Instr.build 34 #[(0, .string nm)]).run Tryd.prog w = .ok (.agg #[.string nm, .int .i64 0, .int .i64 0, .int .i64 0, .string ⟨#[]⟩]) w := by kernel_rfl
section
attribute [local go_sem ↓] run_bsIt run_neRc run_bIt run_bRn
theorem live_y {now : Int} {nm : ByteArray} {kd ad : Int} {to : ByteArray} {ex : Int} (h : now < ex) : liveB now ⟨nm, kd, ad, to, ex⟩ = true := by unfold liveB; simpa using h
theorem live_n {now : Int} {nm : ByteArray} {kd ad : Int} {to : ByteArray} {ex : Int} (h : ¬ now < ex) : liveB now ⟨nm, kd, ad, to, ex⟩ = false := by unfold liveB; simpa using h
theorem place2 {w0 w : World} {D : Nat → Prop} {A B C : Res} {L : List Res} (h : Own w0 D w (A :: B :: (L ++ [C]))) : Own w0 D w (A :: B :: C :: L) := by
  have hp := h.pick (0 :: 1 :: (2 + L.length) :: (List.range L.length).map (· + 2)) (L' := A :: B :: C :: L) (by
      rw [List.nodup_cons, List.nodup_cons, List.nodup_cons]
      refine ⟨by simp; omega, by simp; omega, by simp; omega, ?_⟩
      exact List.Pairwise.map _ (fun a b hab => by omega) List.nodup_range) (fun k R hk => by
    match k, hk with
    | 0, hk => exact ⟨0, rfl, hk⟩
    | 1, hk => exact ⟨1, rfl, hk⟩
    | 2, hk => cases hk; exact ⟨2 + L.length, rfl, by rw [Nat.add_comm]; simp⟩
    | k + 3, hk =>
      have hk : L[k]? = some R := hk
      have hkl := get_len hk
      refine ⟨k + 2, by simp [hkl], ?_⟩
      show (L ++ [C])[k]? = some R
      rw [List.getElem?_append_left hkl]; exact hk)
  exact hp
theorem rowNew2 {w0 w : World} {D : Nat → Prop} {A B : Res} {L : List Res} (h : Own w0 D w (A :: B :: L)) (E : TypeId) (sz : Nat) : Own w0 D w (A :: B :: rowR (.slice none 0 0) E sz 0 [] :: L) := place2 (by have := h.rowNew E sz; simpa using this)
set_option maxHeartbeats 4000000 in
theorem itick_o {w0 w : World} {D : Nat → Prop} {L : List Res} {c : Nat} {l : List En} (now : Int) (h : Own w0 D w L) (i : Nat) (hi : L[i]? = some (resI c l)) (hl : l.length ≤ 32) :
    Calls Tryd.prog 30 #[.pointer (some ⟨c, 0, none⟩), .int .i64 now] w (OPost w0 D (L.set i (resI c (tickF now l))) (.tuple #[]) w) := by
  refine o_one h hi fun D HO0 => ?_
  clear h hi
  obtain ⟨v, hO⟩ := openI' HO0
  clear HO0
  obtain ⟨n, hn⟩ : ∃ n, l.length = n := ⟨_, rfl⟩
  have HN := Lib.hid hn
  have hO : Own w D w [blkI c v, rowR v 77 6 l.length (l.flatMap cIt)] := hO
  rw [hn] at hO hl
  clear hn
  obtain ⟨a, cap, rfl⟩ := row_shape (hO.row 1 rfl)
  have HO := Lib.hid hO
  clear hO
  have HTF := Lib.hid (show tickF now l = l.filter (fun x => liveB now x) from rfl)
  go_enter Tryd.func30, Tryd.ntmps30
  have z0_0 : w.cell? ⟨c, 0, none⟩ = some (.slice a n cap) := HO.out.cell 0 rfl 0 rfl
  go_wp2
  clear z0_0
  have hO := rowNew2 HO.out 77 6
  replace HO := Lib.hid hO
  clear hO
  go_loopw [4, 5] (fun ov iv wr => ∃ (k m cap2 : Nat) (a2 : Option Addr), k ≤ n ∧ iv = .int .i64 k ∧ ((l.take k).filter (fun x => liveB now x)).length = m ∧ ov = .slice a2 m cap2 ∧ Own w D wr [blkR c (.cells #[.slice a n cap] 29), rowR (.slice a n cap) 77 6 n (l.flatMap cIt), rowR (.slice a2 m cap2) 77 6 m (((l.take k).filter (fun x => liveB now x)).flatMap cIt)]) (fun _ iv _ => n - (intOf iv).toNat)
  case atStart => exact ⟨0, 0, 0, none, Nat.zero_le _, rfl, rfl, rfl, HO.out⟩
  case round =>
    obtain ⟨k, m, cap2, a2, hk, rfl, hml, rfl, hO⟩ := hrel
    replace HO := Lib.hid hO
    clear hO
    by_cases hlt : k < n
    · obtain ⟨g, rfl⟩ := row_some (HO.out.row 1 rfl) (by omega)
      have hkl : k < l.length := by have := HN.out; omega
      have hrw := HO.out.row 1 rfl
      have yc : ∀ q u, q < 6 → (cIt l[k])[q]? = some u → wr.cell? ⟨g, k * 6 + q, none⟩ = some u := fun q u hq hu => (row_cells hrw).1 _ _ (by rw [flat_getR cIt 6 (fun _ => rfl) l k hkl q hq]; exact hu)
      have HY := Lib.hid (fun h => filt_yes (p := (fun x => liveB now x)) hkl h)
      have HX := Lib.hid (fun h => filt_no (p := (fun x => liveB now x)) hkl h)
      have HM := Lib.hid (show m ≤ k by rw [← hml]; exact filt_tk _ _ _)
      have HML := Lib.hid hml
      clear hml
      generalize l[k] = x at *
      obtain ⟨nm, kd, ad, to, ex⟩ := x
      have y0 : wr.cell? ⟨g, k * 6, none⟩ = some (.string nm) := yc 0 _ (by decide) rfl
      have y1 : wr.cell? ⟨g, k * 6 + 1, none⟩ = some (.int .i64 kd) := yc 1 _ (by decide) rfl
      have y2 : wr.cell? ⟨g, k * 6 + 2, none⟩ = some (.int .i64 0) := yc 2 _ (by decide) rfl
      have y3 : wr.cell? ⟨g, k * 6 + 3, none⟩ = some (.int .i64 ad) := yc 3 _ (by decide) rfl
      have y4 : wr.cell? ⟨g, k * 6 + 4, none⟩ = some (.string to) := yc 4 _ (by decide) rfl
      have y5 : wr.cell? ⟨g, k * 6 + 5, none⟩ = some (.int .i64 ex) := yc 5 _ (by decide) rfl
      clear yc hkl hrw
      have z0_0 : wr.cell? ⟨c, 0, none⟩ = some (.slice (some ⟨g, 0, none⟩) n cap) := HO.out.cell 0 rfl 0 rfl
      by_cases hd : now < ex
      · have HS := Lib.hid (HY.out (live_y hd))
        clear HY HX
        obtain ⟨x21, hx21⟩ : ∃ y, wr.alloc (.cells #[.string nm, .int .i64 kd, .int .i64 0, .int .i64 ad, .string to, .int .i64 ex] 77) = y := ⟨_, rfl⟩
        obtain ⟨bl, hbl⟩ : ∃ y, wr.heap.size = y := ⟨_, rfl⟩
        have hO := HO.out.alloc (.cells #[.string nm, .int .i64 kd, .int .i64 0, .int .i64 ad, .string to, .int .i64 ex] 77)
        rw [hx21, hbl] at hO
        replace HO := Lib.hid (show Own w D x21 [blkR c (.cells #[.slice (some ⟨g, 0, none⟩) n cap] 29), rowR (.slice (some ⟨g, 0, none⟩) n cap) 77 6 n (l.flatMap cIt), rowR (.slice a2 m cap2) 77 6 m (((l.take k).filter (fun x => liveB now x)).flatMap cIt), blkR bl (.cells #[.string nm, .int .i64 kd, .int .i64 0, .int .i64 ad, .string to, .int .i64 ex] 77)] from hO)
        clear hO
        go_wp2_with ((at_builtin; refine (show _ = True → _ from fun h => of_eq_true h) ?_))
        refine eq_true ?_
        refine wpList_appO rfl (.tmp 25) (.tmp 33) 27 rfl Tryd.underlying27 infoIt rfl (by decide) HO.out 2 rfl rfl 3 1 1 [.string nm, .int .i64 kd, .int .i64 0, .int .i64 ad, .string to, .int .i64 ex] rfl rfl rfl (oneIt ⟨nm, kd, ad, to, ex⟩) (by have := HM.out; unfold maxLen; omega) (by have := HM.out; omega) ?_
        intro v' w' hO
        clear y0 y1 y2 y3 y4 y5 z0_0 hx21 hbl
        simp only [List.set_cons_succ, List.set_cons_zero] at hO
        have hO := hO.take 3
        obtain ⟨a3, cap3, rfl⟩ := row_shape (Own.row hO 2 rfl)
        have HO := Lib.hid hO
        clear hO
        go_wp2
        go_roundw
        case rel =>
          refine ⟨k + 1, m + 1, cap3, a3, by omega, by go_num, by rw [HS.out, List.length_append]; simp; exact HML.out, rfl, ?_⟩
          rw [HS.out, List.flatMap_append, List.flatMap_cons, List.flatMap_nil, List.append_nil]
          exact HO.out
        case measure => simp [intOf]; omega
      · have HS := Lib.hid (HX.out (live_n hd))
        clear HY HX
        go_wp2
        go_roundw
        case rel => exact ⟨k + 1, m, cap2, a2, by omega, by go_num, by rw [HS.out]; exact HML.out, rfl, by rw [HS.out]; exact HO.out.take 3⟩
        case measure => simp [intOf]; omega
    · obtain rfl : k = n := by omega
      have hO := HO.out
      rw [show l.take k = l by rw [← HN.out, List.take_length]] at hO hml
      have HML := Lib.hid hml
      clear hml
      replace HO := Lib.hid hO
      clear hO
      have z0_0 : wr.cell? ⟨c, 0, none⟩ = some (.slice a k cap) := HO.out.cell 0 rfl 0 rfl
      have y0_0 : wr.frozen? ⟨c, 0, none⟩ = false := HO.out.frz 0 rfl 0
      obtain ⟨x21, hx21⟩ : ∃ y, wr.setCell ⟨c, 0, none⟩ (.slice a2 m cap2) = y := ⟨_, rfl⟩
      have hO := HO.out.setCell 0 rfl 0 (.slice a2 m cap2)
      rw [hx21] at hO
      replace HO := Lib.hid (show Own w D x21 [blkR c (.cells #[.slice a2 m cap2] 29), rowR (.slice a k cap) 77 6 k (l.flatMap cIt), rowR (.slice a2 m cap2) 77 6 m ((l.filter (fun x => liveB now x)).flatMap cIt)] from hO)
      clear hO
      go_wp2
      clear z0_0 y0_0 hx21
      have hO := HO.out.pick (L' := [blkR c (.cells #[.slice a2 m cap2] 29), rowR (.slice a2 m cap2) 77 6 m ((l.filter (fun x => liveB now x)).flatMap cIt)]) [0, 2] (by decide) (fun k R hk => by
        match k, hk with
        | 0, hk => exact ⟨0, rfl, hk⟩
        | 1, hk => exact ⟨2, rfl, hk⟩)
      have hO2 : Own w D x21 [blkI c (.slice a2 m cap2), rowIt (.slice a2 m cap2) (tickF now l)] := by
        rw [HTF.out]
        show Own w D x21 [blkI c (.slice a2 m cap2), rowR (.slice a2 m cap2) _ 6 _ _]
        rw [HML.out]
        exact hO
      refine bodyPost_ret (results_none rfl _ _ _) rfl ?_
      exact ⟨rfl, shutI' hO2, hO2.size⟩
set_option maxHeartbeats 2000000 in
theorem ineg_1 {w0 w : World} {D : Nat → Prop} {L : List Res} {c : Nat} {l : List En} (now : Int) (nm0 : ByteArray) (tt0 : Int) (h : Own w0 D w L) (i : Nat) (hi : L[i]? = some (resI c l)) (hl : l.length ≤ 32) (hv : vname nm0 = false) :
    Calls Tryd.prog 29 #[.pointer (some ⟨c, 0, none⟩), .int .i64 now, .string nm0, .int .i64 tt0] w (OPost w0 D (L.set i (resI c l)) (.int .i64 200) w) := by
  refine o_one h hi fun D HO0 => ?_
  clear h hi
  have HO := Lib.hid HO0
  clear HO0
  have HV := Lib.hid hv
  clear hv
  go_enter Tryd.func29, Tryd.ntmps29
  go_wp2_with fail
  refine (o_still HO.out (vn19_r HV.out _)).mono ?_
  rintro e x1 ⟨rfl, hO, -⟩
  replace HO := Lib.hid (show Own w D x1 [resI c l] from hO)
  clear hO
  go_wp2
  go_ret
  exact ⟨rfl, HO.out, HO.out.size⟩
set_option maxHeartbeats 2000000 in
theorem ineg_2 {w0 w : World} {D : Nat → Prop} {L : List Res} {c : Nat} {l : List En} (now : Int) (nm0 : ByteArray) (tt0 : Int) (h : Own w0 D w L) (i : Nat) (hi : L[i]? = some (resI c l)) (hl : l.length ≤ 32) (hv : vname nm0 = true) (h0 : tt0 < 0) :
    Calls Tryd.prog 29 #[.pointer (some ⟨c, 0, none⟩), .int .i64 now, .string nm0, .int .i64 tt0] w (OPost w0 D (L.set i (resI c l)) (.int .i64 200) w) := by
  refine o_one h hi fun D HO0 => ?_
  clear h hi
  have HO := Lib.hid HO0
  clear HO0
  have HV := Lib.hid hv
  clear hv
  go_enter Tryd.func29, Tryd.ntmps29
  go_wp2_with fail
  refine (o_still HO.out (vn19_r HV.out _)).mono ?_
  rintro e x1 ⟨rfl, hO, -⟩
  replace HO := Lib.hid (show Own w D x1 [resI c l] from hO)
  clear hO
  go_wp2
  go_ret
  exact ⟨rfl, HO.out, HO.out.size⟩
set_option maxHeartbeats 2000000 in
theorem ineg_3 {w0 w : World} {D : Nat → Prop} {L : List Res} {c : Nat} {l : List En} (now : Int) (nm0 : ByteArray) (tt0 : Int) (h : Own w0 D w L) (i : Nat) (hi : L[i]? = some (resI c l)) (hl : l.length ≤ 32) (hv : vname nm0 = true) (h0 : ¬ tt0 < 0) (h9 : 1000 < tt0) :
    Calls Tryd.prog 29 #[.pointer (some ⟨c, 0, none⟩), .int .i64 now, .string nm0, .int .i64 tt0] w (OPost w0 D (L.set i (resI c l)) (.int .i64 200) w) := by
  refine o_one h hi fun D HO0 => ?_
  clear h hi
  have HO := Lib.hid HO0
  clear HO0
  have HV := Lib.hid hv
  clear hv
  go_enter Tryd.func29, Tryd.ntmps29
  go_wp2_with fail
  refine (o_still HO.out (vn19_r HV.out _)).mono ?_
  rintro e x1 ⟨rfl, hO, -⟩
  replace HO := Lib.hid (show Own w D x1 [resI c l] from hO)
  clear hO
  go_wp2
  go_ret
  exact ⟨rfl, HO.out, HO.out.size⟩
set_option maxHeartbeats 2000000 in
theorem ineg_4 {w0 w : World} {D : Nat → Prop} {L : List Res} {c : Nat} {l : List En} (now : Int) (nm0 : ByteArray) (tt0 : Int) (h : Own w0 D w L) (i : Nat) (hi : L[i]? = some (resI c l)) (hl : l.length ≤ 32) (hv : vname nm0 = true) (h0 : ¬ tt0 < 0) (h9 : ¬ 1000 < tt0) (ht : timB now = false) :
    Calls Tryd.prog 29 #[.pointer (some ⟨c, 0, none⟩), .int .i64 now, .string nm0, .int .i64 tt0] w (OPost w0 D (L.set i (resI c l)) (.int .i64 200) w) := by
  refine o_one h hi fun D HO0 => ?_
  clear h hi
  have HO := Lib.hid HO0
  clear HO0
  have HV := Lib.hid hv
  clear hv
  have HT := Lib.hid ht
  clear ht
  go_enter Tryd.func29, Tryd.ntmps29
  go_wp2_with fail
  refine (o_still HO.out (vn19_r HV.out _)).mono ?_
  rintro e x1 ⟨rfl, hO, -⟩
  replace HO := Lib.hid (show Own w D x1 [resI c l] from hO)
  clear hO
  go_wp2_with fail
  refine (time_r HT.out _).mono ?_
  rintro e xp ⟨rfl, rfl⟩
  go_wp2
  go_ret
  exact ⟨rfl, HO.out, HO.out.size⟩
set_option maxHeartbeats 2000000 in
theorem ineg_5 {w0 w : World} {D : Nat → Prop} {L : List Res} {c : Nat} {l : List En} (now : Int) (nm0 : ByteArray) (tt0 : Int) (h : Own w0 D w L) (i : Nat) (hi : L[i]? = some (resI c l)) (hl : l.length ≤ 32) (hv : vname nm0 = true) (hz : tt0 = 0) (ht : timB now = true) :
    Calls Tryd.prog 29 #[.pointer (some ⟨c, 0, none⟩), .int .i64 now, .string nm0, .int .i64 tt0] w (OPost w0 D (L.set i (resI c l)) (.int .i64 0) w) := by
  refine o_one h hi fun D HO0 => ?_
  clear h hi
  have HO := Lib.hid HO0
  clear HO0
  have HV := Lib.hid hv
  clear hv
  have HT := Lib.hid ht
  clear ht
  subst hz
  go_enter Tryd.func29, Tryd.ntmps29
  go_wp2_with fail
  refine (o_still HO.out (vn19_r HV.out _)).mono ?_
  rintro e x1 ⟨rfl, hO, -⟩
  replace HO := Lib.hid (show Own w D x1 [resI c l] from hO)
  clear hO
  go_wp2_with fail
  refine (time_r HT.out _).mono ?_
  rintro e xp ⟨rfl, rfl⟩
  go_wp2
  go_ret
  exact ⟨rfl, HO.out, HO.out.size⟩
set_option maxHeartbeats 4000000 in
theorem ineg_6 {w0 w : World} {D : Nat → Prop} {L : List Res} {c : Nat} {l : List En} (now : Int) (nm0 : ByteArray) (tt0 : Int) (h : Own w0 D w L) (i : Nat) (hi : L[i]? = some (resI c l)) (hl : l.length ≤ 32) (hv : vname nm0 = true) (h0 : ¬ tt0 < 0) (h9 : ¬ 1000 < tt0) (ht : timB now = true) (hz : tt0 ≠ 0) :
    Calls Tryd.prog 29 #[.pointer (some ⟨c, 0, none⟩), .int .i64 now, .string nm0, .int .i64 tt0] w (OPost w0 D (L.set i (resI c (storeF (l.filter (fun x => !negP nm0 x)) ⟨nm0, 0, 0, ⟨#[]⟩, now + tt0⟩))) (.int .i64 0) w) := by
  refine o_one h hi fun D HO0 => ?_
  clear h hi
  obtain ⟨v, hO⟩ := openI' HO0
  clear HO0
  obtain ⟨n, hn⟩ : ∃ n, l.length = n := ⟨_, rfl⟩
  have HN := Lib.hid hn
  have hO : Own w D w [blkI c v, rowR v 77 6 l.length (l.flatMap cIt)] := hO
  rw [hn] at hO hl
  clear hn
  obtain ⟨a, cap, rfl⟩ := row_shape (hO.row 1 rfl)
  have HO := Lib.hid hO
  clear hO
  have HV := Lib.hid hv
  have htn : 0 ≤ now ∧ now ≤ 1000000000 := by simpa [timB] using ht
  obtain ⟨t1, t2⟩ := htn
  have HT := Lib.hid ht
  have hze : (tt0 == 0) = false := by simpa using hz
  have hwr : IntKind.i64.wrap (now + tt0) = now + tt0 := IntWalk.i64_in _ (by omega)
  have HWR := Lib.hid hwr
  clear hv ht hz hwr
  go_enter Tryd.func29, Tryd.ntmps29
  go_wp2_with fail
  refine (o_still HO.out (vn19_r HV.out _)).mono ?_
  rintro e x1 ⟨rfl, hO, -⟩
  replace HO := Lib.hid (show Own w D x1 [blkR c (.cells #[.slice a n cap] 29), rowR (.slice a n cap) 77 6 n (l.flatMap cIt)] from hO)
  clear hO
  go_wp2_with fail
  refine (time_r HT.out _).mono ?_
  rintro e xp ⟨rfl, rfl⟩
  have z0_0 : x1.cell? ⟨c, 0, none⟩ = some (.slice a n cap) := HO.out.cell 0 rfl 0 rfl
  go_wp2
  clear z0_0
  have hO := rowNew2 HO.out 77 6
  replace HO := Lib.hid hO
  clear hO
  go_loopw [9, 10] (fun ov iv wr => ∃ (k m cap2 : Nat) (a2 : Option Addr), k ≤ n ∧ iv = .int .i64 k ∧ ((l.take k).filter (fun x => !negP nm0 x)).length = m ∧ ov = .slice a2 m cap2 ∧ Own w D wr [blkR c (.cells #[.slice a n cap] 29), rowR (.slice a n cap) 77 6 n (l.flatMap cIt), rowR (.slice a2 m cap2) 77 6 m (((l.take k).filter (fun x => !negP nm0 x)).flatMap cIt)]) (fun _ iv _ => n - (intOf iv).toNat)
  case atStart => exact ⟨0, 0, 0, none, Nat.zero_le _, rfl, rfl, rfl, HO.out⟩
  case round =>
    obtain ⟨k, m, cap2, a2, hk, rfl, hml, rfl, hO⟩ := hrel
    replace HO := Lib.hid hO
    clear hO
    by_cases hlt : k < n
    · obtain ⟨g, rfl⟩ := row_some (HO.out.row 1 rfl) (by omega)
      have hkl : k < l.length := by have := HN.out; omega
      have hrw := HO.out.row 1 rfl
      have yc : ∀ q u, q < 6 → (cIt l[k])[q]? = some u → wr.cell? ⟨g, k * 6 + q, none⟩ = some u := fun q u hq hu => (row_cells hrw).1 _ _ (by rw [flat_getR cIt 6 (fun _ => rfl) l k hkl q hq]; exact hu)
      have HY := Lib.hid (fun h => filt_yes (p := (fun x => !negP nm0 x)) hkl h)
      have HX := Lib.hid (fun h => filt_no (p := (fun x => !negP nm0 x)) hkl h)
      have HM := Lib.hid (show m ≤ k by rw [← hml]; exact filt_tk _ _ _)
      have HML := Lib.hid hml
      clear hml
      generalize l[k] = x at *
      obtain ⟨nm, kd, ad, to, ex⟩ := x
      have y0 : wr.cell? ⟨g, k * 6, none⟩ = some (.string nm) := yc 0 _ (by decide) rfl
      have y1 : wr.cell? ⟨g, k * 6 + 1, none⟩ = some (.int .i64 kd) := yc 1 _ (by decide) rfl
      have y2 : wr.cell? ⟨g, k * 6 + 2, none⟩ = some (.int .i64 0) := yc 2 _ (by decide) rfl
      have y3 : wr.cell? ⟨g, k * 6 + 3, none⟩ = some (.int .i64 ad) := yc 3 _ (by decide) rfl
      have y4 : wr.cell? ⟨g, k * 6 + 4, none⟩ = some (.string to) := yc 4 _ (by decide) rfl
      have y5 : wr.cell? ⟨g, k * 6 + 5, none⟩ = some (.int .i64 ex) := yc 5 _ (by decide) rfl
      clear yc hkl hrw
      have z0_0 : wr.cell? ⟨c, 0, none⟩ = some (.slice (some ⟨g, 0, none⟩) n cap) := HO.out.cell 0 rfl 0 rfl
      cases hd : nm.toList == nm0.toList with
      | false =>
        have HS := Lib.hid (HY.out (show (!(nm.toList == nm0.toList)) = true by rw [hd]; rfl))
        clear HY HX
        obtain ⟨x22, hx22⟩ : ∃ y, wr.alloc (.cells #[.string nm, .int .i64 kd, .int .i64 0, .int .i64 ad, .string to, .int .i64 ex] 77) = y := ⟨_, rfl⟩
        obtain ⟨bl, hbl⟩ : ∃ y, wr.heap.size = y := ⟨_, rfl⟩
        have hO := HO.out.alloc (.cells #[.string nm, .int .i64 kd, .int .i64 0, .int .i64 ad, .string to, .int .i64 ex] 77)
        rw [hx22, hbl] at hO
        replace HO := Lib.hid (show Own w D x22 [blkR c (.cells #[.slice (some ⟨g, 0, none⟩) n cap] 29), rowR (.slice (some ⟨g, 0, none⟩) n cap) 77 6 n (l.flatMap cIt), rowR (.slice a2 m cap2) 77 6 m (((l.take k).filter (fun x => !negP nm0 x)).flatMap cIt), blkR bl (.cells #[.string nm, .int .i64 kd, .int .i64 0, .int .i64 ad, .string to, .int .i64 ex] 77)] from hO)
        clear hO
        go_wp2_with ((at_builtin; refine (show _ = True → _ from fun h => of_eq_true h) ?_))
        refine eq_true ?_
        refine wpList_appO rfl (.tmp 49) (.tmp 57) 27 rfl Tryd.underlying27 infoIt rfl (by decide) HO.out 2 rfl rfl 3 1 1 [.string nm, .int .i64 kd, .int .i64 0, .int .i64 ad, .string to, .int .i64 ex] rfl rfl rfl (oneIt ⟨nm, kd, ad, to, ex⟩) (by have := HM.out; unfold maxLen; omega) (by have := HM.out; omega) ?_
        intro v' w' hO
        clear y0 y1 y2 y3 y4 y5 z0_0 hx22 hbl
        simp only [List.set_cons_succ, List.set_cons_zero] at hO
        have hO := hO.take 3
        obtain ⟨a3, cap3, rfl⟩ := row_shape (Own.row hO 2 rfl)
        have HO := Lib.hid hO
        clear hO
        go_wp2
        go_roundw
        case rel =>
          refine ⟨k + 1, m + 1, cap3, a3, by omega, by go_num, by rw [HS.out, List.length_append]; simp; exact HML.out, rfl, ?_⟩
          rw [HS.out, List.flatMap_append, List.flatMap_cons, List.flatMap_nil, List.append_nil]
          exact HO.out
        case measure => simp [intOf]; omega
      | true =>
        have HS := Lib.hid (HX.out (show (!(nm.toList == nm0.toList)) = false by rw [hd]; rfl))
        clear HY HX
        go_wp2
        go_roundw
        case rel => exact ⟨k + 1, m, cap2, a2, by omega, by go_num, by rw [HS.out]; exact HML.out, rfl, by rw [HS.out]; exact HO.out.take 3⟩
        case measure => simp [intOf]; omega
    · obtain rfl : k = n := by omega
      have hO := HO.out
      rw [show l.take k = l by rw [← HN.out, List.take_length]] at hO hml
      have HML := Lib.hid hml
      clear hml
      replace HO := Lib.hid hO
      clear hO
      have z0_0 : wr.cell? ⟨c, 0, none⟩ = some (.slice a k cap) := HO.out.cell 0 rfl 0 rfl
      have y0_0 : wr.frozen? ⟨c, 0, none⟩ = false := HO.out.frz 0 rfl 0
      obtain ⟨x22, hx22⟩ : ∃ y, wr.setCell ⟨c, 0, none⟩ (.slice a2 m cap2) = y := ⟨_, rfl⟩
      have hO := HO.out.setCell 0 rfl 0 (.slice a2 m cap2)
      rw [hx22] at hO
      replace HO := Lib.hid (show Own w D x22 [blkR c (.cells #[.slice a2 m cap2] 29), rowR (.slice a k cap) 77 6 k (l.flatMap cIt), rowR (.slice a2 m cap2) 77 6 m ((l.filter (fun x => !negP nm0 x)).flatMap cIt)] from hO)
      clear hO
      have hwr := HWR.out
      go_wp2_with fail
      clear z0_0 y0_0 hx22
      have hO := HO.out.pick (L' := [blkR c (.cells #[.slice a2 m cap2] 29), rowR (.slice a2 m cap2) 77 6 m ((l.filter (fun x => !negP nm0 x)).flatMap cIt)]) [0, 2] (by decide) (fun k R hk => by
        match k, hk with
        | 0, hk => exact ⟨0, rfl, hk⟩
        | 1, hk => exact ⟨2, rfl, hk⟩)
      have hO2 : Own w D x22 [blkI c (.slice a2 m cap2), rowIt (.slice a2 m cap2) (l.filter (fun x => !negP nm0 x))] := by
        show Own w D x22 [blkI c (.slice a2 m cap2), rowR (.slice a2 m cap2) _ 6 _ _]
        rw [HML.out]
        exact hO
      replace HO := Lib.hid (shutI' hO2)
      have hfl : (l.filter (fun x => !negP nm0 x)).length ≤ 32 := Nat.le_trans (List.length_filter_le _ _) (by have := HN.out; omega)
      have HFL := Lib.hid hfl
      clear hO hO2 hfl
      refine (keep_o (e := ⟨nm0, 0, 0, ⟨#[]⟩, now + tt0⟩) HO.out 0 rfl HFL.out).mono ?_
      rintro e x23 ⟨rfl, hO, -⟩
      replace HO := Lib.hid (show Own w D x23 [resI c (storeF (l.filter (fun x => !negP nm0 x)) ⟨nm0, 0, 0, ⟨#[]⟩, now + tt0⟩)] from hO)
      clear hO
      go_wp2
      go_ret
      exact ⟨rfl, HO.out, HO.out.size⟩
theorem ineg_o {w0 w : World} {D : Nat → Prop} {L : List Res} {c : Nat} {l : List En} (now : Int) (nm0 : ByteArray) (tt0 : Int) (h : Own w0 D w L) (i : Nat) (hi : L[i]? = some (resI c l)) (hl : l.length ≤ 32) :
    Calls Tryd.prog 29 #[.pointer (some ⟨c, 0, none⟩), .int .i64 now, .string nm0, .int .i64 tt0] w (OPost w0 D (L.set i (resI c (negF now nm0 tt0 l))) (.int .i64 (negE now nm0 tt0)) w) := by
  cases hv : vname nm0 with
  | false =>
    have := ineg_1 now nm0 tt0 h i hi hl hv
    simpa [negF, negE, chkF, hv] using this
  | true =>
    by_cases h0 : tt0 < 0
    · have := ineg_2 now nm0 tt0 h i hi hl hv h0
      have h0' : ¬ 0 ≤ tt0 := by omega
      simpa [negF, negE, chkF, hv, h0'] using this
    by_cases h9 : 1000 < tt0
    · have := ineg_3 now nm0 tt0 h i hi hl hv h0 h9
      have h9' : ¬ tt0 ≤ 1000 := by omega
      simpa [negF, negE, chkF, hv, h9'] using this
    have h0' : 0 ≤ tt0 := by omega
    have h9' : tt0 ≤ 1000 := by omega
    cases ht : timB now with
    | false =>
      have := ineg_4 now nm0 tt0 h i hi hl hv h0 h9 ht
      unfold timB at ht
      simpa [negF, negE, chkF, hv, h0', h9', ht] using this
    | true =>
      by_cases hz : tt0 = 0
      · have := ineg_5 now nm0 tt0 h i hi hl hv hz ht
        unfold timB at ht
        subst hz
        have hE : negE now nm0 0 = 0 := by simp [negE, chkF, hv, ht]
        have hF : negF now nm0 0 l = l := by simp [negF]
        rw [hE, hF]; exact this
      · have := ineg_6 now nm0 tt0 h i hi hl hv h0 h9 ht hz
        unfold timB at ht
        have hc : chkF now nm0 tt0 = true := by simp [chkF, hv, ht, h0', h9']
        have hE : negE now nm0 tt0 = 0 := by simp [negE, hc]
        have hF : negF now nm0 tt0 l = storeF (l.filter fun x => !negP nm0 x) ⟨nm0, 0, 0, ⟨#[]⟩, now + tt0⟩ := by simp [negF, hc, hz]
        rw [hE, hF]; exact this
set_option maxHeartbeats 2000000 in
theorem iput_1 {w0 w : World} {D : Nat → Prop} {L : List Res} {c : Nat} {l : List En} (now : Int) (rn : ByteArray) (rk rt ra : Int) (ro : ByteArray) (h : Own w0 D w L) (i : Nat) (hi : L[i]? = some (resI c l)) (hl : l.length ≤ 32) (hv : vldB ⟨rn, rk, rt, ra, ro⟩ = false) :
    Calls Tryd.prog 28 #[.pointer (some ⟨c, 0, none⟩), .int .i64 now, .agg #[.string rn, .int .i64 rk, .int .i64 rt, .int .i64 ra, .string ro]] w (OPost w0 D (L.set i (resI c l)) (.int .i64 200) w) := by
  refine o_one h hi fun D HO0 => ?_
  clear h hi
  have HO := Lib.hid HO0
  clear HO0
  have HV := Lib.hid hv
  clear hv
  obtain ⟨x1, hx1⟩ : ∃ y, w.alloc (.cells #[.string rn, .int .i64 rk, .int .i64 rt, .int .i64 ra, .string ro] 34) = y := ⟨_, rfl⟩
  obtain ⟨bp, hbp⟩ : ∃ y, w.heap.size = y := ⟨_, rfl⟩
  have hO := HO.out.alloc (.cells #[.string rn, .int .i64 rk, .int .i64 rt, .int .i64 ra, .string ro] 34)
  rw [hx1, hbp] at hO
  replace HO := Lib.hid (show Own w D x1 [resI c l, blkR bp (.cells #[.string rn, .int .i64 rk, .int .i64 rt, .int .i64 ra, .string ro] 34)] from hO)
  clear hO
  have z1_0 : x1.cell? ⟨bp, 0, none⟩ = some (.string rn) := HO.out.cell 1 rfl 0 rfl
  have z1_1 : x1.cell? ⟨bp, 1, none⟩ = some (.int .i64 rk) := HO.out.cell 1 rfl 1 rfl
  have z1_2 : x1.cell? ⟨bp, 2, none⟩ = some (.int .i64 rt) := HO.out.cell 1 rfl 2 rfl
  have z1_3 : x1.cell? ⟨bp, 3, none⟩ = some (.int .i64 ra) := HO.out.cell 1 rfl 3 rfl
  have z1_4 : x1.cell? ⟨bp, 4, none⟩ = some (.string ro) := HO.out.cell 1 rfl 4 rfl
  go_enter Tryd.func28, Tryd.ntmps28
  go_wp2_with fail
  refine (o_still HO.out (valid20_r (r := ⟨rn, rk, rt, ra, ro⟩) HV.out _)).mono ?_
  rintro e x2 ⟨rfl, hO, -⟩
  replace HO := Lib.hid (show Own w D x2 [resI c l, blkR bp (.cells #[.string rn, .int .i64 rk, .int .i64 rt, .int .i64 ra, .string ro] 34)] from hO)
  clear hO
  clear hx1 hbp z1_0 z1_1 z1_2 z1_3 z1_4
  have z1_0 : x2.cell? ⟨bp, 0, none⟩ = some (.string rn) := HO.out.cell 1 rfl 0 rfl
  have z1_1 : x2.cell? ⟨bp, 1, none⟩ = some (.int .i64 rk) := HO.out.cell 1 rfl 1 rfl
  have z1_2 : x2.cell? ⟨bp, 2, none⟩ = some (.int .i64 rt) := HO.out.cell 1 rfl 2 rfl
  have z1_3 : x2.cell? ⟨bp, 3, none⟩ = some (.int .i64 ra) := HO.out.cell 1 rfl 3 rfl
  have z1_4 : x2.cell? ⟨bp, 4, none⟩ = some (.string ro) := HO.out.cell 1 rfl 4 rfl
  go_wp2
  go_ret
  exact ⟨rfl, HO.out.take 1, HO.out.size⟩
set_option maxHeartbeats 2000000 in
theorem iput_2 {w0 w : World} {D : Nat → Prop} {L : List Res} {c : Nat} {l : List En} (now : Int) (rn : ByteArray) (rk rt ra : Int) (ro : ByteArray) (h : Own w0 D w L) (i : Nat) (hi : L[i]? = some (resI c l)) (hl : l.length ≤ 32) (hv : vldB ⟨rn, rk, rt, ra, ro⟩ = true) (ht : timB now = false) :
    Calls Tryd.prog 28 #[.pointer (some ⟨c, 0, none⟩), .int .i64 now, .agg #[.string rn, .int .i64 rk, .int .i64 rt, .int .i64 ra, .string ro]] w (OPost w0 D (L.set i (resI c l)) (.int .i64 200) w) := by
  refine o_one h hi fun D HO0 => ?_
  clear h hi
  have HO := Lib.hid HO0
  clear HO0
  have HV := Lib.hid hv
  clear hv
  have HT := Lib.hid ht
  clear ht
  obtain ⟨x1, hx1⟩ : ∃ y, w.alloc (.cells #[.string rn, .int .i64 rk, .int .i64 rt, .int .i64 ra, .string ro] 34) = y := ⟨_, rfl⟩
  obtain ⟨bp, hbp⟩ : ∃ y, w.heap.size = y := ⟨_, rfl⟩
  have hO := HO.out.alloc (.cells #[.string rn, .int .i64 rk, .int .i64 rt, .int .i64 ra, .string ro] 34)
  rw [hx1, hbp] at hO
  replace HO := Lib.hid (show Own w D x1 [resI c l, blkR bp (.cells #[.string rn, .int .i64 rk, .int .i64 rt, .int .i64 ra, .string ro] 34)] from hO)
  clear hO
  have z1_0 : x1.cell? ⟨bp, 0, none⟩ = some (.string rn) := HO.out.cell 1 rfl 0 rfl
  have z1_1 : x1.cell? ⟨bp, 1, none⟩ = some (.int .i64 rk) := HO.out.cell 1 rfl 1 rfl
  have z1_2 : x1.cell? ⟨bp, 2, none⟩ = some (.int .i64 rt) := HO.out.cell 1 rfl 2 rfl
  have z1_3 : x1.cell? ⟨bp, 3, none⟩ = some (.int .i64 ra) := HO.out.cell 1 rfl 3 rfl
  have z1_4 : x1.cell? ⟨bp, 4, none⟩ = some (.string ro) := HO.out.cell 1 rfl 4 rfl
  go_enter Tryd.func28, Tryd.ntmps28
  go_wp2_with fail
  refine (o_still HO.out (valid20_r (r := ⟨rn, rk, rt, ra, ro⟩) HV.out _)).mono ?_
  rintro e x2 ⟨rfl, hO, -⟩
  replace HO := Lib.hid (show Own w D x2 [resI c l, blkR bp (.cells #[.string rn, .int .i64 rk, .int .i64 rt, .int .i64 ra, .string ro] 34)] from hO)
  clear hO
  clear hx1 hbp z1_0 z1_1 z1_2 z1_3 z1_4
  have z1_0 : x2.cell? ⟨bp, 0, none⟩ = some (.string rn) := HO.out.cell 1 rfl 0 rfl
  have z1_1 : x2.cell? ⟨bp, 1, none⟩ = some (.int .i64 rk) := HO.out.cell 1 rfl 1 rfl
  have z1_2 : x2.cell? ⟨bp, 2, none⟩ = some (.int .i64 rt) := HO.out.cell 1 rfl 2 rfl
  have z1_3 : x2.cell? ⟨bp, 3, none⟩ = some (.int .i64 ra) := HO.out.cell 1 rfl 3 rfl
  have z1_4 : x2.cell? ⟨bp, 4, none⟩ = some (.string ro) := HO.out.cell 1 rfl 4 rfl
  go_wp2_with fail
  refine (time_r HT.out _).mono ?_
  rintro e xp ⟨rfl, rfl⟩
  go_wp2
  go_ret
  exact ⟨rfl, HO.out.take 1, HO.out.size⟩
set_option maxHeartbeats 2000000 in
theorem iput_3 {w0 w : World} {D : Nat → Prop} {L : List Res} {c : Nat} {l : List En} (now : Int) (rn : ByteArray) (rk rt ra : Int) (ro : ByteArray) (h : Own w0 D w L) (i : Nat) (hi : L[i]? = some (resI c l)) (hl : l.length ≤ 32) (hv : vldB ⟨rn, rk, rt, ra, ro⟩ = true) (hz : rt = 0) (ht : timB now = true) :
    Calls Tryd.prog 28 #[.pointer (some ⟨c, 0, none⟩), .int .i64 now, .agg #[.string rn, .int .i64 rk, .int .i64 rt, .int .i64 ra, .string ro]] w (OPost w0 D (L.set i (resI c l)) (.int .i64 0) w) := by
  refine o_one h hi fun D HO0 => ?_
  clear h hi
  have HO := Lib.hid HO0
  clear HO0
  subst hz
  have HV := Lib.hid hv
  clear hv
  have HT := Lib.hid ht
  clear ht
  obtain ⟨x1, hx1⟩ : ∃ y, w.alloc (.cells #[.string rn, .int .i64 rk, .int .i64 0, .int .i64 ra, .string ro] 34) = y := ⟨_, rfl⟩
  obtain ⟨bp, hbp⟩ : ∃ y, w.heap.size = y := ⟨_, rfl⟩
  have hO := HO.out.alloc (.cells #[.string rn, .int .i64 rk, .int .i64 0, .int .i64 ra, .string ro] 34)
  rw [hx1, hbp] at hO
  replace HO := Lib.hid (show Own w D x1 [resI c l, blkR bp (.cells #[.string rn, .int .i64 rk, .int .i64 0, .int .i64 ra, .string ro] 34)] from hO)
  clear hO
  have z1_0 : x1.cell? ⟨bp, 0, none⟩ = some (.string rn) := HO.out.cell 1 rfl 0 rfl
  have z1_1 : x1.cell? ⟨bp, 1, none⟩ = some (.int .i64 rk) := HO.out.cell 1 rfl 1 rfl
  have z1_2 : x1.cell? ⟨bp, 2, none⟩ = some (.int .i64 0) := HO.out.cell 1 rfl 2 rfl
  have z1_3 : x1.cell? ⟨bp, 3, none⟩ = some (.int .i64 ra) := HO.out.cell 1 rfl 3 rfl
  have z1_4 : x1.cell? ⟨bp, 4, none⟩ = some (.string ro) := HO.out.cell 1 rfl 4 rfl
  go_enter Tryd.func28, Tryd.ntmps28
  go_wp2_with fail
  refine (o_still HO.out (valid20_r (r := ⟨rn, rk, 0, ra, ro⟩) HV.out _)).mono ?_
  rintro e x2 ⟨rfl, hO, -⟩
  replace HO := Lib.hid (show Own w D x2 [resI c l, blkR bp (.cells #[.string rn, .int .i64 rk, .int .i64 0, .int .i64 ra, .string ro] 34)] from hO)
  clear hO
  clear hx1 hbp z1_0 z1_1 z1_2 z1_3 z1_4
  have z1_0 : x2.cell? ⟨bp, 0, none⟩ = some (.string rn) := HO.out.cell 1 rfl 0 rfl
  have z1_1 : x2.cell? ⟨bp, 1, none⟩ = some (.int .i64 rk) := HO.out.cell 1 rfl 1 rfl
  have z1_2 : x2.cell? ⟨bp, 2, none⟩ = some (.int .i64 0) := HO.out.cell 1 rfl 2 rfl
  have z1_3 : x2.cell? ⟨bp, 3, none⟩ = some (.int .i64 ra) := HO.out.cell 1 rfl 3 rfl
  have z1_4 : x2.cell? ⟨bp, 4, none⟩ = some (.string ro) := HO.out.cell 1 rfl 4 rfl
  go_wp2_with fail
  refine (time_r HT.out _).mono ?_
  rintro e xp ⟨rfl, rfl⟩
  go_wp2
  go_ret
  exact ⟨rfl, HO.out.take 1, HO.out.size⟩
set_option maxHeartbeats 8000000 in
theorem iput_4 {w0 w : World} {D : Nat → Prop} {L : List Res} {c : Nat} {l : List En} (now : Int) (rn : ByteArray) (rk rt ra : Int) (ro : ByteArray) (h : Own w0 D w L) (i : Nat) (hi : L[i]? = some (resI c l)) (hl : l.length ≤ 32) (hv : vldB ⟨rn, rk, rt, ra, ro⟩ = true) (h0 : 0 ≤ rt) (h9 : rt ≤ 1000) (ht : timB now = true) (hz : rt ≠ 0) :
    Calls Tryd.prog 28 #[.pointer (some ⟨c, 0, none⟩), .int .i64 now, .agg #[.string rn, .int .i64 rk, .int .i64 rt, .int .i64 ra, .string ro]] w (OPost w0 D (L.set i (resI c (storeF (l.filter (fun x => !refP ⟨rn, rk, rt, ra, ro⟩ x)) ⟨rn, rk, ra, ro, now + rt⟩))) (.int .i64 0) w) := by
  refine o_one h hi fun D HO0 => ?_
  clear h hi
  obtain ⟨v, hO⟩ := openI' HO0
  clear HO0
  obtain ⟨n, hn⟩ : ∃ n, l.length = n := ⟨_, rfl⟩
  have HN := Lib.hid hn
  have hO : Own w D w [blkI c v, rowR v 77 6 l.length (l.flatMap cIt)] := hO
  rw [hn] at hO hl
  clear hn
  obtain ⟨a, cap, rfl⟩ := row_shape (hO.row 1 rfl)
  have HO := Lib.hid hO
  clear hO
  have HV := Lib.hid hv
  have htn : 0 ≤ now ∧ now ≤ 1000000000 := by simpa [timB] using ht
  obtain ⟨t1, t2⟩ := htn
  have HT := Lib.hid ht
  have hze : (rt == 0) = false := by simpa using hz
  have hwr : IntKind.i64.wrap (now + rt) = now + rt := IntWalk.i64_in _ (by omega)
  have HWR := Lib.hid hwr
  clear hv ht hz hwr
  obtain ⟨x1, hx1⟩ : ∃ y, w.alloc (.cells #[.string rn, .int .i64 rk, .int .i64 rt, .int .i64 ra, .string ro] 34) = y := ⟨_, rfl⟩
  obtain ⟨bp, hbp⟩ : ∃ y, w.heap.size = y := ⟨_, rfl⟩
  have hO := HO.out.alloc (.cells #[.string rn, .int .i64 rk, .int .i64 rt, .int .i64 ra, .string ro] 34)
  rw [hx1, hbp] at hO
  replace HO := Lib.hid (show Own w D x1 [blkR c (.cells #[.slice a n cap] 29), rowR (.slice a n cap) 77 6 n (l.flatMap cIt), blkR bp (.cells #[.string rn, .int .i64 rk, .int .i64 rt, .int .i64 ra, .string ro] 34)] from hO)
  clear hO
  have z2_0 : x1.cell? ⟨bp, 0, none⟩ = some (.string rn) := HO.out.cell 2 rfl 0 rfl
  have z2_1 : x1.cell? ⟨bp, 1, none⟩ = some (.int .i64 rk) := HO.out.cell 2 rfl 1 rfl
  have z2_2 : x1.cell? ⟨bp, 2, none⟩ = some (.int .i64 rt) := HO.out.cell 2 rfl 2 rfl
  have z2_3 : x1.cell? ⟨bp, 3, none⟩ = some (.int .i64 ra) := HO.out.cell 2 rfl 3 rfl
  have z2_4 : x1.cell? ⟨bp, 4, none⟩ = some (.string ro) := HO.out.cell 2 rfl 4 rfl
  go_enter Tryd.func28, Tryd.ntmps28
  go_wp2_with fail
  refine (o_still HO.out (valid20_r (r := ⟨rn, rk, rt, ra, ro⟩) HV.out _)).mono ?_
  rintro e x2 ⟨rfl, hO, -⟩
  replace HO := Lib.hid (show Own w D x2 [blkR c (.cells #[.slice a n cap] 29), rowR (.slice a n cap) 77 6 n (l.flatMap cIt), blkR bp (.cells #[.string rn, .int .i64 rk, .int .i64 rt, .int .i64 ra, .string ro] 34)] from hO)
  clear hO
  clear hx1 hbp z2_0 z2_1 z2_2 z2_3 z2_4
  have z2_0 : x2.cell? ⟨bp, 0, none⟩ = some (.string rn) := HO.out.cell 2 rfl 0 rfl
  have z2_1 : x2.cell? ⟨bp, 1, none⟩ = some (.int .i64 rk) := HO.out.cell 2 rfl 1 rfl
  have z2_2 : x2.cell? ⟨bp, 2, none⟩ = some (.int .i64 rt) := HO.out.cell 2 rfl 2 rfl
  have z2_3 : x2.cell? ⟨bp, 3, none⟩ = some (.int .i64 ra) := HO.out.cell 2 rfl 3 rfl
  have z2_4 : x2.cell? ⟨bp, 4, none⟩ = some (.string ro) := HO.out.cell 2 rfl 4 rfl
  go_wp2_with fail
  refine (time_r HT.out _).mono ?_
  rintro e xp ⟨rfl, rfl⟩
  have z0_0 : x2.cell? ⟨c, 0, none⟩ = some (.slice a n cap) := HO.out.cell 0 rfl 0 rfl
  go_wp2
  clear z2_0 z2_1 z2_2 z2_3 z2_4 z0_0
  have hO := rowNew2 HO.out 77 6
  replace HO := Lib.hid hO
  clear hO
  go_loopw [7, 8] (fun ov iv wr => ∃ (k m cap2 : Nat) (a2 : Option Addr), k ≤ n ∧ iv = .int .i64 k ∧ ((l.take k).filter (fun x => !refP ⟨rn, rk, rt, ra, ro⟩ x)).length = m ∧ ov = .slice a2 m cap2 ∧ Own w D wr [blkR c (.cells #[.slice a n cap] 29), rowR (.slice a n cap) 77 6 n (l.flatMap cIt), rowR (.slice a2 m cap2) 77 6 m (((l.take k).filter (fun x => !refP ⟨rn, rk, rt, ra, ro⟩ x)).flatMap cIt), blkR bp (.cells #[.string rn, .int .i64 rk, .int .i64 rt, .int .i64 ra, .string ro] 34)]) (fun _ iv _ => n - (intOf iv).toNat)
  case atStart => exact ⟨0, 0, 0, none, Nat.zero_le _, rfl, rfl, rfl, HO.out⟩
  case round =>
    obtain ⟨k, m, cap2, a2, hk, rfl, hml, rfl, hO⟩ := hrel
    replace HO := Lib.hid hO
    clear hO
    by_cases hlt : k < n
    · obtain ⟨g, rfl⟩ := row_some (HO.out.row 1 rfl) (by omega)
      have hkl : k < l.length := by have := HN.out; omega
      have hrw := HO.out.row 1 rfl
      have yc : ∀ q u, q < 6 → (cIt l[k])[q]? = some u → wr.cell? ⟨g, k * 6 + q, none⟩ = some u := fun q u hq hu => (row_cells hrw).1 _ _ (by rw [flat_getR cIt 6 (fun _ => rfl) l k hkl q hq]; exact hu)
      have HY := Lib.hid (fun h => filt_yes (p := (fun x => !refP ⟨rn, rk, rt, ra, ro⟩ x)) hkl h)
      have HX := Lib.hid (fun h => filt_no (p := (fun x => !refP ⟨rn, rk, rt, ra, ro⟩ x)) hkl h)
      have HM := Lib.hid (show m ≤ k by rw [← hml]; exact filt_tk _ _ _)
      have HML := Lib.hid hml
      clear hml
      have HYF := Lib.hid (fun (q : Nat) (u : Value) (hq : q < 6) (hu : (cIt l[k])[q]? = some u) => (by rw [flat_getR cIt 6 (fun _ => rfl) l k hkl q hq]; exact hu : (l.flatMap cIt)[k * 6 + q]? = some u))
      generalize l[k] = x at *
      obtain ⟨nm, kd, ad, to, ex⟩ := x
      have y0 : wr.cell? ⟨g, k * 6, none⟩ = some (.string nm) := yc 0 _ (by decide) rfl
      have y1 : wr.cell? ⟨g, k * 6 + 1, none⟩ = some (.int .i64 kd) := yc 1 _ (by decide) rfl
      have y2 : wr.cell? ⟨g, k * 6 + 2, none⟩ = some (.int .i64 0) := yc 2 _ (by decide) rfl
      have y3 : wr.cell? ⟨g, k * 6 + 3, none⟩ = some (.int .i64 ad) := yc 3 _ (by decide) rfl
      have y4 : wr.cell? ⟨g, k * 6 + 4, none⟩ = some (.string to) := yc 4 _ (by decide) rfl
      have y5 : wr.cell? ⟨g, k * 6 + 5, none⟩ = some (.int .i64 ex) := yc 5 _ (by decide) rfl
      clear yc hkl hrw
      have z0_0 : wr.cell? ⟨c, 0, none⟩ = some (.slice (some ⟨g, 0, none⟩) n cap) := HO.out.cell 0 rfl 0 rfl
      obtain ⟨x23, hx23⟩ : ∃ y, wr.alloc (.cells #[.string ⟨#[]⟩, .int .i64 0, .int .i64 0, .int .i64 0, .string ⟨#[]⟩] 34) = y := ⟨_, rfl⟩
      obtain ⟨bx, hbx⟩ : ∃ y, wr.heap.size = y := ⟨_, rfl⟩
      have hO := HO.out.alloc (.cells #[.string ⟨#[]⟩, .int .i64 0, .int .i64 0, .int .i64 0, .string ⟨#[]⟩] 34)
      rw [hx23, hbx] at hO
      replace HO := Lib.hid (show Own w D x23 [blkR c (.cells #[.slice (some ⟨g, 0, none⟩) n cap] 29), rowR (.slice (some ⟨g, 0, none⟩) n cap) 77 6 n (l.flatMap cIt), rowR (.slice a2 m cap2) 77 6 m (((l.take k).filter (fun x => !refP ⟨rn, rk, rt, ra, ro⟩ x)).flatMap cIt), blkR bp (.cells #[.string rn, .int .i64 rk, .int .i64 rt, .int .i64 ra, .string ro] 34), blkR bx (.cells #[.string ⟨#[]⟩, .int .i64 0, .int .i64 0, .int .i64 0, .string ⟨#[]⟩] 34)] from hO)
      clear hO
      have k4_0_24 : x23.cell? ⟨bx, 0, none⟩ = some (.string ⟨#[]⟩) := HO.out.cell 4 rfl 0 rfl
      have lk4_0_24 : x23.frozen? ⟨bx, 0, none⟩ = false := HO.out.frz 4 rfl 0
      have k4_1_25 : x23.cell? ⟨bx, 1, none⟩ = some (.int .i64 0) := HO.out.cell 4 rfl 1 rfl
      have lk4_1_25 : x23.frozen? ⟨bx, 1, none⟩ = false := HO.out.frz 4 rfl 1
      have k4_2_26 : x23.cell? ⟨bx, 2, none⟩ = some (.int .i64 0) := HO.out.cell 4 rfl 2 rfl
      have lk4_2_26 : x23.frozen? ⟨bx, 2, none⟩ = false := HO.out.frz 4 rfl 2
      have k4_3_27 : x23.cell? ⟨bx, 3, none⟩ = some (.int .i64 0) := HO.out.cell 4 rfl 3 rfl
      have lk4_3_27 : x23.frozen? ⟨bx, 3, none⟩ = false := HO.out.frz 4 rfl 3
      have k4_4_28 : x23.cell? ⟨bx, 4, none⟩ = some (.string ⟨#[]⟩) := HO.out.cell 4 rfl 4 rfl
      have lk4_4_28 : x23.frozen? ⟨bx, 4, none⟩ = false := HO.out.frz 4 rfl 4
      obtain ⟨x29, hx29⟩ : ∃ y, x23.setCell ⟨bx, 0, none⟩ (.string nm) = y := ⟨_, rfl⟩
      have hO := HO.out.setCell 4 rfl 0 (.string nm)
      rw [hx29] at hO
      replace HO := Lib.hid (show Own w D x29 [blkR c (.cells #[.slice (some ⟨g, 0, none⟩) n cap] 29), rowR (.slice (some ⟨g, 0, none⟩) n cap) 77 6 n (l.flatMap cIt), rowR (.slice a2 m cap2) 77 6 m (((l.take k).filter (fun x => !refP ⟨rn, rk, rt, ra, ro⟩ x)).flatMap cIt), blkR bp (.cells #[.string rn, .int .i64 rk, .int .i64 rt, .int .i64 ra, .string ro] 34), blkR bx (.cells #[.string nm, .int .i64 0, .int .i64 0, .int .i64 0, .string ⟨#[]⟩] 34)] from hO)
      clear hO
      have k4_1_30 : x29.cell? ⟨bx, 1, none⟩ = some (.int .i64 0) := HO.out.cell 4 rfl 1 rfl
      have lk4_1_30 : x29.frozen? ⟨bx, 1, none⟩ = false := HO.out.frz 4 rfl 1
      have k4_2_31 : x29.cell? ⟨bx, 2, none⟩ = some (.int .i64 0) := HO.out.cell 4 rfl 2 rfl
      have lk4_2_31 : x29.frozen? ⟨bx, 2, none⟩ = false := HO.out.frz 4 rfl 2
      have k4_3_32 : x29.cell? ⟨bx, 3, none⟩ = some (.int .i64 0) := HO.out.cell 4 rfl 3 rfl
      have lk4_3_32 : x29.frozen? ⟨bx, 3, none⟩ = false := HO.out.frz 4 rfl 3
      have k4_4_33 : x29.cell? ⟨bx, 4, none⟩ = some (.string ⟨#[]⟩) := HO.out.cell 4 rfl 4 rfl
      have lk4_4_33 : x29.frozen? ⟨bx, 4, none⟩ = false := HO.out.frz 4 rfl 4
      obtain ⟨x34, hx34⟩ : ∃ y, x29.setCell ⟨bx, 1, none⟩ (.int .i64 kd) = y := ⟨_, rfl⟩
      have hO := HO.out.setCell 4 rfl 1 (.int .i64 kd)
      rw [hx34] at hO
      replace HO := Lib.hid (show Own w D x34 [blkR c (.cells #[.slice (some ⟨g, 0, none⟩) n cap] 29), rowR (.slice (some ⟨g, 0, none⟩) n cap) 77 6 n (l.flatMap cIt), rowR (.slice a2 m cap2) 77 6 m (((l.take k).filter (fun x => !refP ⟨rn, rk, rt, ra, ro⟩ x)).flatMap cIt), blkR bp (.cells #[.string rn, .int .i64 rk, .int .i64 rt, .int .i64 ra, .string ro] 34), blkR bx (.cells #[.string nm, .int .i64 kd, .int .i64 0, .int .i64 0, .string ⟨#[]⟩] 34)] from hO)
      clear hO
      have k4_2_35 : x34.cell? ⟨bx, 2, none⟩ = some (.int .i64 0) := HO.out.cell 4 rfl 2 rfl
      have lk4_2_35 : x34.frozen? ⟨bx, 2, none⟩ = false := HO.out.frz 4 rfl 2
      have k4_3_36 : x34.cell? ⟨bx, 3, none⟩ = some (.int .i64 0) := HO.out.cell 4 rfl 3 rfl
      have lk4_3_36 : x34.frozen? ⟨bx, 3, none⟩ = false := HO.out.frz 4 rfl 3
      have k4_4_37 : x34.cell? ⟨bx, 4, none⟩ = some (.string ⟨#[]⟩) := HO.out.cell 4 rfl 4 rfl
      have lk4_4_37 : x34.frozen? ⟨bx, 4, none⟩ = false := HO.out.frz 4 rfl 4
      obtain ⟨x38, hx38⟩ : ∃ y, x34.setCell ⟨bx, 2, none⟩ (.int .i64 0) = y := ⟨_, rfl⟩
      have hO := HO.out.setCell 4 rfl 2 (.int .i64 0)
      rw [hx38] at hO
      replace HO := Lib.hid (show Own w D x38 [blkR c (.cells #[.slice (some ⟨g, 0, none⟩) n cap] 29), rowR (.slice (some ⟨g, 0, none⟩) n cap) 77 6 n (l.flatMap cIt), rowR (.slice a2 m cap2) 77 6 m (((l.take k).filter (fun x => !refP ⟨rn, rk, rt, ra, ro⟩ x)).flatMap cIt), blkR bp (.cells #[.string rn, .int .i64 rk, .int .i64 rt, .int .i64 ra, .string ro] 34), blkR bx (.cells #[.string nm, .int .i64 kd, .int .i64 0, .int .i64 0, .string ⟨#[]⟩] 34)] from hO)
      clear hO
      have k4_3_39 : x38.cell? ⟨bx, 3, none⟩ = some (.int .i64 0) := HO.out.cell 4 rfl 3 rfl
      have lk4_3_39 : x38.frozen? ⟨bx, 3, none⟩ = false := HO.out.frz 4 rfl 3
      have k4_4_40 : x38.cell? ⟨bx, 4, none⟩ = some (.string ⟨#[]⟩) := HO.out.cell 4 rfl 4 rfl
      have lk4_4_40 : x38.frozen? ⟨bx, 4, none⟩ = false := HO.out.frz 4 rfl 4
      obtain ⟨x41, hx41⟩ : ∃ y, x38.setCell ⟨bx, 3, none⟩ (.int .i64 ad) = y := ⟨_, rfl⟩
      have hO := HO.out.setCell 4 rfl 3 (.int .i64 ad)
      rw [hx41] at hO
      replace HO := Lib.hid (show Own w D x41 [blkR c (.cells #[.slice (some ⟨g, 0, none⟩) n cap] 29), rowR (.slice (some ⟨g, 0, none⟩) n cap) 77 6 n (l.flatMap cIt), rowR (.slice a2 m cap2) 77 6 m (((l.take k).filter (fun x => !refP ⟨rn, rk, rt, ra, ro⟩ x)).flatMap cIt), blkR bp (.cells #[.string rn, .int .i64 rk, .int .i64 rt, .int .i64 ra, .string ro] 34), blkR bx (.cells #[.string nm, .int .i64 kd, .int .i64 0, .int .i64 ad, .string ⟨#[]⟩] 34)] from hO)
      clear hO
      have k4_4_42 : x41.cell? ⟨bx, 4, none⟩ = some (.string ⟨#[]⟩) := HO.out.cell 4 rfl 4 rfl
      have lk4_4_42 : x41.frozen? ⟨bx, 4, none⟩ = false := HO.out.frz 4 rfl 4
      obtain ⟨x43, hx43⟩ : ∃ y, x41.setCell ⟨bx, 4, none⟩ (.string to) = y := ⟨_, rfl⟩
      have hO := HO.out.setCell 4 rfl 4 (.string to)
      rw [hx43] at hO
      replace HO := Lib.hid (show Own w D x43 [blkR c (.cells #[.slice (some ⟨g, 0, none⟩) n cap] 29), rowR (.slice (some ⟨g, 0, none⟩) n cap) 77 6 n (l.flatMap cIt), rowR (.slice a2 m cap2) 77 6 m (((l.take k).filter (fun x => !refP ⟨rn, rk, rt, ra, ro⟩ x)).flatMap cIt), blkR bp (.cells #[.string rn, .int .i64 rk, .int .i64 rt, .int .i64 ra, .string ro] 34), blkR bx (.cells #[.string nm, .int .i64 kd, .int .i64 0, .int .i64 ad, .string to] 34)] from hO)
      clear hO
      have z4_0 : x43.cell? ⟨bx, 0, none⟩ = some (.string nm) := HO.out.cell 4 rfl 0 rfl
      have z4_1 : x43.cell? ⟨bx, 1, none⟩ = some (.int .i64 kd) := HO.out.cell 4 rfl 1 rfl
      have z3_0 : x43.cell? ⟨bp, 0, none⟩ = some (.string rn) := HO.out.cell 3 rfl 0 rfl
      by_cases hk0 : kd = 0
      · subst hk0
        cases hn : nm.toList == rn.toList with
        | true =>
          have HS := Lib.hid (HX.out (show (!refP ⟨rn, rk, rt, ra, ro⟩ ⟨nm, 0, ad, to, ex⟩) = false by simp [refP, hn]))
          clear HY HX
          go_wp2
          clear y0 y1 y2 y3 y4 y5 z0_0 hx23 hbx k4_0_24 lk4_0_24 k4_1_25 lk4_1_25 k4_2_26 lk4_2_26 k4_3_27 lk4_3_27 k4_4_28 lk4_4_28 hx29 k4_1_30 lk4_1_30 k4_2_31 lk4_2_31 k4_3_32 lk4_3_32 k4_4_33 lk4_4_33 hx34 k4_2_35 lk4_2_35 k4_3_36 lk4_3_36 k4_4_37 lk4_4_37 hx38 k4_3_39 lk4_3_39 k4_4_40 lk4_4_40 hx41 k4_4_42 lk4_4_42 hx43 z4_0 z4_1 z3_0
          refine wp_region_B (by kernel_rfl) (by kernel_rfl) ?_
          repeat (go_big_quiet_step (fail))
          refine wpQuiet_nil ?_
          intro x98 hbw
          have hO := HO.out.stay hbw
          replace HO := Lib.hid (show Own w D x98 [blkR c (.cells #[.slice (some ⟨g, 0, none⟩) n cap] 29), rowR (.slice (some ⟨g, 0, none⟩) n cap) 77 6 n (l.flatMap cIt), rowR (.slice a2 m cap2) 77 6 m (((l.take k).filter (fun x => !refP ⟨rn, rk, rt, ra, ro⟩ x)).flatMap cIt), blkR bp (.cells #[.string rn, .int .i64 rk, .int .i64 rt, .int .i64 ra, .string ro] 34), blkR bx (.cells #[.string nm, .int .i64 0, .int .i64 0, .int .i64 ad, .string to] 34)] from hO)
          clear hO hbw
          go_wp2
          go_roundw
          case rel => exact ⟨k + 1, m, cap2, a2, by omega, by go_num, by rw [HS.out]; exact HML.out, rfl, by rw [HS.out]; exact HO.out.take 4⟩
          case measure => simp [intOf]; omega
        | false =>
          cases hd : rcEq ⟨nm, 0, 0, ad, to⟩ ⟨rn, rk, 0, ra, ro⟩ with
          | true =>
            have HS := Lib.hid (HX.out (show (!refP ⟨rn, rk, rt, ra, ro⟩ ⟨nm, 0, ad, to, ex⟩) = false by simp [refP, hd]))
            clear HY HX
            go_wp2
            clear y0 y1 y2 y3 y4 y5 z0_0 hx23 hbx k4_0_24 lk4_0_24 k4_1_25 lk4_1_25 k4_2_26 lk4_2_26 k4_3_27 lk4_3_27 k4_4_28 lk4_4_28 hx29 k4_1_30 lk4_1_30 k4_2_31 lk4_2_31 k4_3_32 lk4_3_32 k4_4_33 lk4_4_33 hx34 k4_2_35 lk4_2_35 k4_3_36 lk4_3_36 k4_4_37 lk4_4_37 hx38 k4_3_39 lk4_3_39 k4_4_40 lk4_4_40 hx41 k4_4_42 lk4_4_42 hx43 z4_0 z4_1 z3_0
            have g4_0 := cell_regrown (show x43.cell? ⟨bx, 0, none⟩ = some (.string nm) from HO.out.cell 4 rfl 0 rfl)
            have g4_1 := cell_regrown (show x43.cell? ⟨bx, 1, none⟩ = some (.int .i64 0) from HO.out.cell 4 rfl 1 rfl)
            have g4_2 := cell_regrown (show x43.cell? ⟨bx, 2, none⟩ = some (.int .i64 0) from HO.out.cell 4 rfl 2 rfl)
            have g4_3 := cell_regrown (show x43.cell? ⟨bx, 3, none⟩ = some (.int .i64 ad) from HO.out.cell 4 rfl 3 rfl)
            have g4_4 := cell_regrown (show x43.cell? ⟨bx, 4, none⟩ = some (.string to) from HO.out.cell 4 rfl 4 rfl)
            have h3_0 := cell_regrown (show x43.cell? ⟨bp, 0, none⟩ = some (.string rn) from HO.out.cell 3 rfl 0 rfl)
            have h3_1 := cell_regrown (show x43.cell? ⟨bp, 1, none⟩ = some (.int .i64 rk) from HO.out.cell 3 rfl 1 rfl)
            have h3_2 := cell_regrown (show x43.cell? ⟨bp, 2, none⟩ = some (.int .i64 rt) from HO.out.cell 3 rfl 2 rfl)
            have h3_3 := cell_regrown (show x43.cell? ⟨bp, 3, none⟩ = some (.int .i64 ra) from HO.out.cell 3 rfl 3 rfl)
            have h3_4 := cell_regrown (show x43.cell? ⟨bp, 4, none⟩ = some (.string ro) from HO.out.cell 3 rfl 4 rfl)
            refine wp_region_B (by kernel_rfl) (by kernel_rfl) ?_
            repeat (go_big_quiet_step ((go_at_call 47; exact Calls.regrown_of (thing_any _ _ _ _ _ _))))
            refine wpQuiet_nil ?_
            intro x941 hbw
            have hO := HO.out.stay hbw
            clear g4_0 g4_1 g4_2 g4_3 g4_4 h3_0 h3_1 h3_2 h3_3 h3_4
            replace HO := Lib.hid (show Own w D x941 [blkR c (.cells #[.slice (some ⟨g, 0, none⟩) n cap] 29), rowR (.slice (some ⟨g, 0, none⟩) n cap) 77 6 n (l.flatMap cIt), rowR (.slice a2 m cap2) 77 6 m (((l.take k).filter (fun x => !refP ⟨rn, rk, rt, ra, ro⟩ x)).flatMap cIt), blkR bp (.cells #[.string rn, .int .i64 rk, .int .i64 rt, .int .i64 ra, .string ro] 34), blkR bx (.cells #[.string nm, .int .i64 0, .int .i64 0, .int .i64 ad, .string to] 34)] from hO)
            clear hO hbw
            go_wp2
            go_roundw
            case rel => exact ⟨k + 1, m, cap2, a2, by omega, by go_num, by rw [HS.out]; exact HML.out, rfl, by rw [HS.out]; exact HO.out.take 4⟩
            case measure => simp [intOf]; omega
          | false =>
            have HS := Lib.hid (HY.out (show (!refP ⟨rn, rk, rt, ra, ro⟩ ⟨nm, 0, ad, to, ex⟩) = true by simp [refP, hd, hn]))
            clear HY HX
            go_wp2
            clear y0 y1 y2 y3 y4 y5 z0_0 hx23 hbx k4_0_24 lk4_0_24 k4_1_25 lk4_1_25 k4_2_26 lk4_2_26 k4_3_27 lk4_3_27 k4_4_28 lk4_4_28 hx29 k4_1_30 lk4_1_30 k4_2_31 lk4_2_31 k4_3_32 lk4_3_32 k4_4_33 lk4_4_33 hx34 k4_2_35 lk4_2_35 k4_3_36 lk4_3_36 k4_4_37 lk4_4_37 hx38 k4_3_39 lk4_3_39 k4_4_40 lk4_4_40 hx41 k4_4_42 lk4_4_42 hx43 z4_0 z4_1 z3_0
            have g4_0 := cell_regrown (show x43.cell? ⟨bx, 0, none⟩ = some (.string nm) from HO.out.cell 4 rfl 0 rfl)
            have g4_1 := cell_regrown (show x43.cell? ⟨bx, 1, none⟩ = some (.int .i64 0) from HO.out.cell 4 rfl 1 rfl)
            have g4_2 := cell_regrown (show x43.cell? ⟨bx, 2, none⟩ = some (.int .i64 0) from HO.out.cell 4 rfl 2 rfl)
            have g4_3 := cell_regrown (show x43.cell? ⟨bx, 3, none⟩ = some (.int .i64 ad) from HO.out.cell 4 rfl 3 rfl)
            have g4_4 := cell_regrown (show x43.cell? ⟨bx, 4, none⟩ = some (.string to) from HO.out.cell 4 rfl 4 rfl)
            have h3_0 := cell_regrown (show x43.cell? ⟨bp, 0, none⟩ = some (.string rn) from HO.out.cell 3 rfl 0 rfl)
            have h3_1 := cell_regrown (show x43.cell? ⟨bp, 1, none⟩ = some (.int .i64 rk) from HO.out.cell 3 rfl 1 rfl)
            have h3_2 := cell_regrown (show x43.cell? ⟨bp, 2, none⟩ = some (.int .i64 rt) from HO.out.cell 3 rfl 2 rfl)
            have h3_3 := cell_regrown (show x43.cell? ⟨bp, 3, none⟩ = some (.int .i64 ra) from HO.out.cell 3 rfl 3 rfl)
            have h3_4 := cell_regrown (show x43.cell? ⟨bp, 4, none⟩ = some (.string ro) from HO.out.cell 3 rfl 4 rfl)
            refine wp_region_B (by kernel_rfl) (by kernel_rfl) ?_
            repeat (go_big_quiet_step ((go_at_call 47; exact Calls.regrown_of (thing_any _ _ _ _ _ _))))
            refine wpQuiet_nil ?_
            intro x941 hbw
            have hO := HO.out.stay hbw
            clear g4_0 g4_1 g4_2 g4_3 g4_4 h3_0 h3_1 h3_2 h3_3 h3_4
            replace HO := Lib.hid (show Own w D x941 [blkR c (.cells #[.slice (some ⟨g, 0, none⟩) n cap] 29), rowR (.slice (some ⟨g, 0, none⟩) n cap) 77 6 n (l.flatMap cIt), rowR (.slice a2 m cap2) 77 6 m (((l.take k).filter (fun x => !refP ⟨rn, rk, rt, ra, ro⟩ x)).flatMap cIt), blkR bp (.cells #[.string rn, .int .i64 rk, .int .i64 rt, .int .i64 ra, .string ro] 34), blkR bx (.cells #[.string nm, .int .i64 0, .int .i64 0, .int .i64 ad, .string to] 34)] from hO)
            clear hO hbw
            have hrw := HO.out.row 1 rfl
            have y0 : x941.cell? ⟨g, k * 6, none⟩ = some (.string nm) := (row_cells hrw).1 _ _ (HYF.out 0 _ (by decide) rfl)
            have y1 : x941.cell? ⟨g, k * 6 + 1, none⟩ = some (.int .i64 0) := (row_cells hrw).1 _ _ (HYF.out 1 _ (by decide) rfl)
            have y2 : x941.cell? ⟨g, k * 6 + 2, none⟩ = some (.int .i64 0) := (row_cells hrw).1 _ _ (HYF.out 2 _ (by decide) rfl)
            have y3 : x941.cell? ⟨g, k * 6 + 3, none⟩ = some (.int .i64 ad) := (row_cells hrw).1 _ _ (HYF.out 3 _ (by decide) rfl)
            have y4 : x941.cell? ⟨g, k * 6 + 4, none⟩ = some (.string to) := (row_cells hrw).1 _ _ (HYF.out 4 _ (by decide) rfl)
            have y5 : x941.cell? ⟨g, k * 6 + 5, none⟩ = some (.int .i64 ex) := (row_cells hrw).1 _ _ (HYF.out 5 _ (by decide) rfl)
            clear hrw
            have z0_0 : x941.cell? ⟨c, 0, none⟩ = some (.slice (some ⟨g, 0, none⟩) n cap) := HO.out.cell 0 rfl 0 rfl
            obtain ⟨x45, hx45⟩ : ∃ y, x941.alloc (.cells #[.string nm, .int .i64 0, .int .i64 0, .int .i64 ad, .string to, .int .i64 ex] 77) = y := ⟨_, rfl⟩
            obtain ⟨bl, hbl⟩ : ∃ y, x941.heap.size = y := ⟨_, rfl⟩
            have hO := HO.out.alloc (.cells #[.string nm, .int .i64 0, .int .i64 0, .int .i64 ad, .string to, .int .i64 ex] 77)
            rw [hx45, hbl] at hO
            replace HO := Lib.hid (show Own w D x45 [blkR c (.cells #[.slice (some ⟨g, 0, none⟩) n cap] 29), rowR (.slice (some ⟨g, 0, none⟩) n cap) 77 6 n (l.flatMap cIt), rowR (.slice a2 m cap2) 77 6 m (((l.take k).filter (fun x => !refP ⟨rn, rk, rt, ra, ro⟩ x)).flatMap cIt), blkR bp (.cells #[.string rn, .int .i64 rk, .int .i64 rt, .int .i64 ra, .string ro] 34), blkR bx (.cells #[.string nm, .int .i64 0, .int .i64 0, .int .i64 ad, .string to] 34), blkR bl (.cells #[.string nm, .int .i64 0, .int .i64 0, .int .i64 ad, .string to, .int .i64 ex] 77)] from hO)
            clear hO
            go_wp2_with ((at_builtin; refine (show _ = True → _ from fun h => of_eq_true h) ?_))
            refine eq_true ?_
            refine wpList_appO rfl (.tmp 57) (.tmp 65) 27 rfl Tryd.underlying27 infoIt rfl (by decide) HO.out 2 rfl rfl 5 1 1 [.string nm, .int .i64 0, .int .i64 0, .int .i64 ad, .string to, .int .i64 ex] rfl rfl rfl (oneIt ⟨nm, 0, ad, to, ex⟩) (by have := HM.out; unfold maxLen; omega) (by have := HM.out; omega) ?_
            intro v' w' hO
            clear y0 y1 y2 y3 y4 y5 z0_0 hx45 hbl
            simp only [List.set_cons_succ, List.set_cons_zero] at hO
            have hO := hO.take 4
            obtain ⟨a3, cap3, rfl⟩ := row_shape (Own.row hO 2 rfl)
            have HO := Lib.hid hO
            clear hO
            go_wp2
            go_roundw
            case rel =>
              refine ⟨k + 1, m + 1, cap3, a3, by omega, by go_num, by rw [HS.out, List.length_append]; simp; exact HML.out, rfl, ?_⟩
              rw [HS.out, List.flatMap_append, List.flatMap_cons, List.flatMap_nil, List.append_nil]
              exact HO.out
            case measure => simp [intOf]; omega
      · have hk1 : (kd == 0) = false := by simpa using hk0
        clear hk0
        cases hd : rcEq ⟨nm, kd, 0, ad, to⟩ ⟨rn, rk, 0, ra, ro⟩ with
        | true =>
          have HS := Lib.hid (HX.out (show (!refP ⟨rn, rk, rt, ra, ro⟩ ⟨nm, kd, ad, to, ex⟩) = false by simp [refP, hd]))
          clear HY HX
          go_wp2
          clear y0 y1 y2 y3 y4 y5 z0_0 hx23 hbx k4_0_24 lk4_0_24 k4_1_25 lk4_1_25 k4_2_26 lk4_2_26 k4_3_27 lk4_3_27 k4_4_28 lk4_4_28 hx29 k4_1_30 lk4_1_30 k4_2_31 lk4_2_31 k4_3_32 lk4_3_32 k4_4_33 lk4_4_33 hx34 k4_2_35 lk4_2_35 k4_3_36 lk4_3_36 k4_4_37 lk4_4_37 hx38 k4_3_39 lk4_3_39 k4_4_40 lk4_4_40 hx41 k4_4_42 lk4_4_42 hx43 z4_0 z4_1 z3_0
          have g4_0 := cell_regrown (show x43.cell? ⟨bx, 0, none⟩ = some (.string nm) from HO.out.cell 4 rfl 0 rfl)
          have g4_1 := cell_regrown (show x43.cell? ⟨bx, 1, none⟩ = some (.int .i64 kd) from HO.out.cell 4 rfl 1 rfl)
          have g4_2 := cell_regrown (show x43.cell? ⟨bx, 2, none⟩ = some (.int .i64 0) from HO.out.cell 4 rfl 2 rfl)
          have g4_3 := cell_regrown (show x43.cell? ⟨bx, 3, none⟩ = some (.int .i64 ad) from HO.out.cell 4 rfl 3 rfl)
          have g4_4 := cell_regrown (show x43.cell? ⟨bx, 4, none⟩ = some (.string to) from HO.out.cell 4 rfl 4 rfl)
          have h3_0 := cell_regrown (show x43.cell? ⟨bp, 0, none⟩ = some (.string rn) from HO.out.cell 3 rfl 0 rfl)
          have h3_1 := cell_regrown (show x43.cell? ⟨bp, 1, none⟩ = some (.int .i64 rk) from HO.out.cell 3 rfl 1 rfl)
          have h3_2 := cell_regrown (show x43.cell? ⟨bp, 2, none⟩ = some (.int .i64 rt) from HO.out.cell 3 rfl 2 rfl)
          have h3_3 := cell_regrown (show x43.cell? ⟨bp, 3, none⟩ = some (.int .i64 ra) from HO.out.cell 3 rfl 3 rfl)
          have h3_4 := cell_regrown (show x43.cell? ⟨bp, 4, none⟩ = some (.string ro) from HO.out.cell 3 rfl 4 rfl)
          refine wp_region_B (by kernel_rfl) (by kernel_rfl) ?_
          repeat (go_big_quiet_step ((go_at_call 47; exact Calls.regrown_of (thing_any _ _ _ _ _ _))))
          refine wpQuiet_nil ?_
          intro x941 hbw
          have hO := HO.out.stay hbw
          clear g4_0 g4_1 g4_2 g4_3 g4_4 h3_0 h3_1 h3_2 h3_3 h3_4
          replace HO := Lib.hid (show Own w D x941 [blkR c (.cells #[.slice (some ⟨g, 0, none⟩) n cap] 29), rowR (.slice (some ⟨g, 0, none⟩) n cap) 77 6 n (l.flatMap cIt), rowR (.slice a2 m cap2) 77 6 m (((l.take k).filter (fun x => !refP ⟨rn, rk, rt, ra, ro⟩ x)).flatMap cIt), blkR bp (.cells #[.string rn, .int .i64 rk, .int .i64 rt, .int .i64 ra, .string ro] 34), blkR bx (.cells #[.string nm, .int .i64 kd, .int .i64 0, .int .i64 ad, .string to] 34)] from hO)
          clear hO hbw
          go_wp2
          go_roundw
          case rel => exact ⟨k + 1, m, cap2, a2, by omega, by go_num, by rw [HS.out]; exact HML.out, rfl, by rw [HS.out]; exact HO.out.take 4⟩
          case measure => simp [intOf]; omega
        | false =>
          have HS := Lib.hid (HY.out (show (!refP ⟨rn, rk, rt, ra, ro⟩ ⟨nm, kd, ad, to, ex⟩) = true by simp [refP, hd, hk1]))
          clear HY HX
          go_wp2
          clear y0 y1 y2 y3 y4 y5 z0_0 hx23 hbx k4_0_24 lk4_0_24 k4_1_25 lk4_1_25 k4_2_26 lk4_2_26 k4_3_27 lk4_3_27 k4_4_28 lk4_4_28 hx29 k4_1_30 lk4_1_30 k4_2_31 lk4_2_31 k4_3_32 lk4_3_32 k4_4_33 lk4_4_33 hx34 k4_2_35 lk4_2_35 k4_3_36 lk4_3_36 k4_4_37 lk4_4_37 hx38 k4_3_39 lk4_3_39 k4_4_40 lk4_4_40 hx41 k4_4_42 lk4_4_42 hx43 z4_0 z4_1 z3_0
          have g4_0 := cell_regrown (show x43.cell? ⟨bx, 0, none⟩ = some (.string nm) from HO.out.cell 4 rfl 0 rfl)
          have g4_1 := cell_regrown (show x43.cell? ⟨bx, 1, none⟩ = some (.int .i64 kd) from HO.out.cell 4 rfl 1 rfl)
          have g4_2 := cell_regrown (show x43.cell? ⟨bx, 2, none⟩ = some (.int .i64 0) from HO.out.cell 4 rfl 2 rfl)
          have g4_3 := cell_regrown (show x43.cell? ⟨bx, 3, none⟩ = some (.int .i64 ad) from HO.out.cell 4 rfl 3 rfl)
          have g4_4 := cell_regrown (show x43.cell? ⟨bx, 4, none⟩ = some (.string to) from HO.out.cell 4 rfl 4 rfl)
          have h3_0 := cell_regrown (show x43.cell? ⟨bp, 0, none⟩ = some (.string rn) from HO.out.cell 3 rfl 0 rfl)
          have h3_1 := cell_regrown (show x43.cell? ⟨bp, 1, none⟩ = some (.int .i64 rk) from HO.out.cell 3 rfl 1 rfl)
          have h3_2 := cell_regrown (show x43.cell? ⟨bp, 2, none⟩ = some (.int .i64 rt) from HO.out.cell 3 rfl 2 rfl)
          have h3_3 := cell_regrown (show x43.cell? ⟨bp, 3, none⟩ = some (.int .i64 ra) from HO.out.cell 3 rfl 3 rfl)
          have h3_4 := cell_regrown (show x43.cell? ⟨bp, 4, none⟩ = some (.string ro) from HO.out.cell 3 rfl 4 rfl)
          refine wp_region_B (by kernel_rfl) (by kernel_rfl) ?_
          repeat (go_big_quiet_step ((go_at_call 47; exact Calls.regrown_of (thing_any _ _ _ _ _ _))))
          refine wpQuiet_nil ?_
          intro x941 hbw
          have hO := HO.out.stay hbw
          clear g4_0 g4_1 g4_2 g4_3 g4_4 h3_0 h3_1 h3_2 h3_3 h3_4
          replace HO := Lib.hid (show Own w D x941 [blkR c (.cells #[.slice (some ⟨g, 0, none⟩) n cap] 29), rowR (.slice (some ⟨g, 0, none⟩) n cap) 77 6 n (l.flatMap cIt), rowR (.slice a2 m cap2) 77 6 m (((l.take k).filter (fun x => !refP ⟨rn, rk, rt, ra, ro⟩ x)).flatMap cIt), blkR bp (.cells #[.string rn, .int .i64 rk, .int .i64 rt, .int .i64 ra, .string ro] 34), blkR bx (.cells #[.string nm, .int .i64 kd, .int .i64 0, .int .i64 ad, .string to] 34)] from hO)
          clear hO hbw
          have hrw := HO.out.row 1 rfl
          have y0 : x941.cell? ⟨g, k * 6, none⟩ = some (.string nm) := (row_cells hrw).1 _ _ (HYF.out 0 _ (by decide) rfl)
          have y1 : x941.cell? ⟨g, k * 6 + 1, none⟩ = some (.int .i64 kd) := (row_cells hrw).1 _ _ (HYF.out 1 _ (by decide) rfl)
          have y2 : x941.cell? ⟨g, k * 6 + 2, none⟩ = some (.int .i64 0) := (row_cells hrw).1 _ _ (HYF.out 2 _ (by decide) rfl)
          have y3 : x941.cell? ⟨g, k * 6 + 3, none⟩ = some (.int .i64 ad) := (row_cells hrw).1 _ _ (HYF.out 3 _ (by decide) rfl)
          have y4 : x941.cell? ⟨g, k * 6 + 4, none⟩ = some (.string to) := (row_cells hrw).1 _ _ (HYF.out 4 _ (by decide) rfl)
          have y5 : x941.cell? ⟨g, k * 6 + 5, none⟩ = some (.int .i64 ex) := (row_cells hrw).1 _ _ (HYF.out 5 _ (by decide) rfl)
          clear hrw
          have z0_0 : x941.cell? ⟨c, 0, none⟩ = some (.slice (some ⟨g, 0, none⟩) n cap) := HO.out.cell 0 rfl 0 rfl
          obtain ⟨x45, hx45⟩ : ∃ y, x941.alloc (.cells #[.string nm, .int .i64 kd, .int .i64 0, .int .i64 ad, .string to, .int .i64 ex] 77) = y := ⟨_, rfl⟩
          obtain ⟨bl, hbl⟩ : ∃ y, x941.heap.size = y := ⟨_, rfl⟩
          have hO := HO.out.alloc (.cells #[.string nm, .int .i64 kd, .int .i64 0, .int .i64 ad, .string to, .int .i64 ex] 77)
          rw [hx45, hbl] at hO
          replace HO := Lib.hid (show Own w D x45 [blkR c (.cells #[.slice (some ⟨g, 0, none⟩) n cap] 29), rowR (.slice (some ⟨g, 0, none⟩) n cap) 77 6 n (l.flatMap cIt), rowR (.slice a2 m cap2) 77 6 m (((l.take k).filter (fun x => !refP ⟨rn, rk, rt, ra, ro⟩ x)).flatMap cIt), blkR bp (.cells #[.string rn, .int .i64 rk, .int .i64 rt, .int .i64 ra, .string ro] 34), blkR bx (.cells #[.string nm, .int .i64 kd, .int .i64 0, .int .i64 ad, .string to] 34), blkR bl (.cells #[.string nm, .int .i64 kd, .int .i64 0, .int .i64 ad, .string to, .int .i64 ex] 77)] from hO)
          clear hO
          go_wp2_with ((at_builtin; refine (show _ = True → _ from fun h => of_eq_true h) ?_))
          refine eq_true ?_
          refine wpList_appO rfl (.tmp 57) (.tmp 65) 27 rfl Tryd.underlying27 infoIt rfl (by decide) HO.out 2 rfl rfl 5 1 1 [.string nm, .int .i64 kd, .int .i64 0, .int .i64 ad, .string to, .int .i64 ex] rfl rfl rfl (oneIt ⟨nm, kd, ad, to, ex⟩) (by have := HM.out; unfold maxLen; omega) (by have := HM.out; omega) ?_
          intro v' w' hO
          clear y0 y1 y2 y3 y4 y5 z0_0 hx45 hbl
          simp only [List.set_cons_succ, List.set_cons_zero] at hO
          have hO := hO.take 4
          obtain ⟨a3, cap3, rfl⟩ := row_shape (Own.row hO 2 rfl)
          have HO := Lib.hid hO
          clear hO
          go_wp2
          go_roundw
          case rel =>
            refine ⟨k + 1, m + 1, cap3, a3, by omega, by go_num, by rw [HS.out, List.length_append]; simp; exact HML.out, rfl, ?_⟩
            rw [HS.out, List.flatMap_append, List.flatMap_cons, List.flatMap_nil, List.append_nil]
            exact HO.out
          case measure => simp [intOf]; omega
    · obtain rfl : k = n := by omega
      have hO := HO.out
      rw [show l.take k = l by rw [← HN.out, List.take_length]] at hO hml
      have HML := Lib.hid hml
      clear hml
      replace HO := Lib.hid hO
      clear hO
      have z0_0 : wr.cell? ⟨c, 0, none⟩ = some (.slice a k cap) := HO.out.cell 0 rfl 0 rfl
      have y0_0 : wr.frozen? ⟨c, 0, none⟩ = false := HO.out.frz 0 rfl 0
      obtain ⟨x23, hx23⟩ : ∃ y, wr.setCell ⟨c, 0, none⟩ (.slice a2 m cap2) = y := ⟨_, rfl⟩
      have hO := HO.out.setCell 0 rfl 0 (.slice a2 m cap2)
      rw [hx23] at hO
      replace HO := Lib.hid (show Own w D x23 [blkR c (.cells #[.slice a2 m cap2] 29), rowR (.slice a k cap) 77 6 k (l.flatMap cIt), rowR (.slice a2 m cap2) 77 6 m ((l.filter (fun x => !refP ⟨rn, rk, rt, ra, ro⟩ x)).flatMap cIt), blkR bp (.cells #[.string rn, .int .i64 rk, .int .i64 rt, .int .i64 ra, .string ro] 34)] from hO)
      clear hO
      go_wp2
      clear z0_0 y0_0 hx23
      have hO := HO.out.pick (L' := [blkR c (.cells #[.slice a2 m cap2] 29), rowR (.slice a2 m cap2) 77 6 m ((l.filter (fun x => !refP ⟨rn, rk, rt, ra, ro⟩ x)).flatMap cIt), blkR bp (.cells #[.string rn, .int .i64 rk, .int .i64 rt, .int .i64 ra, .string ro] 34)]) [0, 2, 3] (by decide) (fun k R hk => by
        match k, hk with
        | 0, hk => exact ⟨0, rfl, hk⟩
        | 1, hk => exact ⟨2, rfl, hk⟩
        | 2, hk => exact ⟨3, rfl, hk⟩)
      have hO2 : Own w D x23 [blkI c (.slice a2 m cap2), rowIt (.slice a2 m cap2) (l.filter (fun x => !refP ⟨rn, rk, rt, ra, ro⟩ x)), blkR bp (.cells #[.string rn, .int .i64 rk, .int .i64 rt, .int .i64 ra, .string ro] 34)] := by
        show Own w D x23 [blkI c (.slice a2 m cap2), rowR (.slice a2 m cap2) _ 6 _ _, _]
        rw [HML.out]
        exact hO
      replace HO := Lib.hid (shutI' hO2)
      have hwr := HWR.out
      have hfl : (l.filter (fun x => !refP ⟨rn, rk, rt, ra, ro⟩ x)).length ≤ 32 := Nat.le_trans (List.length_filter_le _ _) (by have := HN.out; omega)
      have HFL := Lib.hid hfl
      clear hO hO2 hfl
      generalize hΓ : ghO w D [[resI c (l.filter (fun x => !refP ⟨rn, rk, rt, ra, ro⟩ x)), blkR bp (.cells #[.string rn, .int .i64 rk, .int .i64 rt, .int .i64 ra, .string ro] 34)], [resI c (storeF (l.filter (fun x => !refP ⟨rn, rk, rt, ra, ro⟩ x)) ⟨rn, rk, ra, ro, now + rt⟩), blkR bp (.cells #[.string rn, .int .i64 rk, .int .i64 rt, .int .i64 ra, .string ro] 34)]] = Γ
      have HST := Lib.hid (show Γ.inv [] x23 by rw [← hΓ]; exact ghO_start HO.out)
      have q1_0 : ∀ q : Γ.Wd, q.w.cell? ⟨bp, 0, none⟩ = some (.string rn) := by rw [← hΓ]; exact ghO_cell (c := #[.string rn, .int .i64 rk, .int .i64 rt, .int .i64 ra, .string ro]) (t := 34) 1 (by simp) 0 rfl
      have q1_1 : ∀ q : Γ.Wd, q.w.cell? ⟨bp, 1, none⟩ = some (.int .i64 rk) := by rw [← hΓ]; exact ghO_cell (c := #[.string rn, .int .i64 rk, .int .i64 rt, .int .i64 ra, .string ro]) (t := 34) 1 (by simp) 1 rfl
      have q1_2 : ∀ q : Γ.Wd, q.w.cell? ⟨bp, 2, none⟩ = some (.int .i64 rt) := by rw [← hΓ]; exact ghO_cell (c := #[.string rn, .int .i64 rk, .int .i64 rt, .int .i64 ra, .string ro]) (t := 34) 1 (by simp) 2 rfl
      have q1_3 : ∀ q : Γ.Wd, q.w.cell? ⟨bp, 3, none⟩ = some (.int .i64 ra) := by rw [← hΓ]; exact ghO_cell (c := #[.string rn, .int .i64 rk, .int .i64 rt, .int .i64 ra, .string ro]) (t := 34) 1 (by simp) 3 rfl
      have q1_4 : ∀ q : Γ.Wd, q.w.cell? ⟨bp, 4, none⟩ = some (.string ro) := by rw [← hΓ]; exact ghO_cell (c := #[.string rn, .int .i64 rk, .int .i64 rt, .int .i64 ra, .string ro]) (t := 34) 1 (by simp) 4 rfl
      have HΓ := Lib.hid hΓ
      clear hΓ
      have ne : Nonempty Γ.Wd := ⟨⟨[], x23, HST.out⟩⟩
      refine wp_region_H Γ 9 [8] (by kernel_rfl) (by kernel_rfl) (by kernel_rfl) (by kernel_rfl) HST.out ?_
      simp only [List.take, List.drop]
      iterate 2 (first | (refine wpH_want (by kernel_rfl) (by kernel_rfl) rfl rfl ?_; intro K hK; go_big_quiet_op; go_big_quiet_on) | (refine wpH_is (by kernel_rfl) (by kernel_rfl) rfl _ (fun _ w _ => rfl) ?_; simp only [Act.put, List.setIfInBounds_toArray, List.set_cons_succ, List.set_cons_zero]))
      refine wpH_call (by kernel_rfl) (by kernel_rfl) rfl 47 #[.agg #[.string rn, .int .i64 rk, .int .i64 rt, .int .i64 ra, .string ro]] (.agg #[.string rn, .int .i64 rk, .int .i64 0, .int .i64 ra, .string ro]) (fun w => by simp [go_sem]) (fun _ w _ => thing_any _ _ _ _ _ _) ?_
      simp only [Act.put, List.setIfInBounds_toArray, List.set_cons_succ, List.set_cons_zero]
      iterate 5 (first | (refine wpH_want (by kernel_rfl) (by kernel_rfl) rfl rfl ?_; intro K hK; go_big_quiet_op; go_big_quiet_on) | (refine wpH_is (by kernel_rfl) (by kernel_rfl) rfl _ (fun _ w _ => rfl) ?_; simp only [Act.put, List.setIfInBounds_toArray, List.set_cons_succ, List.set_cons_zero]))
      refine wpH_chain 0 (by kernel_rfl) (by kernel_rfl) rfl 48 #[.pointer (some ⟨c, 0, none⟩), .agg #[.string rn, .int .i64 rk, .int .i64 0, .int .i64 ra, .string ro, .int .i64 (now + rt)]] (.tuple #[]) (fun w => by simp [go_sem]) (fun vs w hg hvs => by
        rw [← HΓ.out] at hg ⊢
        exact ghO_call 0 hg hvs rfl rfl fun ho => keep_o (e := ⟨rn, rk, ra, ro, now + rt⟩) ho 0 rfl HFL.out) ?_
      simp only [Act.put, List.setIfInBounds_toArray, List.set_cons_succ, List.set_cons_zero]
      refine wpH_nil (by kernel_rfl) (by simp) ?_
      rintro ⟨vs, x99⟩ hg hgl
      rw [← HΓ.out] at hg
      replace HO := Lib.hid (ghO_at hg 1 hgl rfl)
      simp only [gexAll, List.drop]
      clear q1_0 q1_1 q1_2 q1_3 q1_4 ne HST hg hgl HΓ
      replace HO := Lib.hid (show Own w D x99 [resI c (storeF (l.filter (fun x => !refP ⟨rn, rk, rt, ra, ro⟩ x)) ⟨rn, rk, ra, ro, now + rt⟩), blkR bp (.cells #[.string rn, .int .i64 rk, .int .i64 rt, .int .i64 ra, .string ro] 34)] from HO.out)
      go_wp2
      go_ret
      exact ⟨rfl, HO.out.take 1, HO.out.size⟩
theorem iput_o {w0 w : World} {D : Nat → Prop} {L : List Res} {c : Nat} {l : List En} (now : Int) (r : Rc) (h : Own w0 D w L) (i : Nat) (hi : L[i]? = some (resI c l)) (hl : l.length ≤ 32) :
    Calls Tryd.prog 28 #[.pointer (some ⟨c, 0, none⟩), .int .i64 now, rcV r] w (OPost w0 D (L.set i (resI c (putRF now r l))) (.int .i64 (putE now r)) w) := by
  obtain ⟨rn, rk, rt, ra, ro⟩ := r
  have hB : recB now ⟨rn, rk, rt, ra, ro⟩ = (vldB ⟨rn, rk, rt, ra, ro⟩ && timB now) := by
    rw [recB_eq]; unfold vldB chkF timB; rw [Bool.eq_iff_iff]; simp only [Bool.and_eq_true]; exact ⟨fun ⟨h1, ⟨⟨⟨h2, h3⟩, h4⟩, h5⟩, h6⟩ => ⟨⟨⟨⟨h6, h4⟩, h5⟩, h1⟩, h2, h3⟩, fun ⟨⟨⟨⟨h6, h4⟩, h5⟩, h1⟩, h2, h3⟩ => ⟨h1, ⟨⟨⟨h2, h3⟩, h4⟩, h5⟩, h6⟩⟩
  have key : ∀ (b : Bool) (l' : List En) (e : Int), recB now ⟨rn, rk, rt, ra, ro⟩ = b → putRF now ⟨rn, rk, rt, ra, ro⟩ l = l' → putE now ⟨rn, rk, rt, ra, ro⟩ = e → Calls Tryd.prog 28 #[.pointer (some ⟨c, 0, none⟩), .int .i64 now, rcV ⟨rn, rk, rt, ra, ro⟩] w (OPost w0 D (L.set i (resI c l')) (.int .i64 e) w) → Calls Tryd.prog 28 #[.pointer (some ⟨c, 0, none⟩), .int .i64 now, rcV ⟨rn, rk, rt, ra, ro⟩] w (OPost w0 D (L.set i (resI c (putRF now ⟨rn, rk, rt, ra, ro⟩ l))) (.int .i64 (putE now ⟨rn, rk, rt, ra, ro⟩)) w) := fun b l' e _ h1 h2 h => by rw [h1, h2]; exact h
  cases hv : vldB ⟨rn, rk, rt, ra, ro⟩ with
  | false =>
    rw [hv, Bool.false_and] at hB
    exact key false l 200 hB (by simp [putRF, hB]) (by simp [putE, hB]) (iput_1 now rn rk rt ra ro h i hi hl hv)
  | true =>
    cases ht : timB now with
    | false =>
      rw [hv, ht, Bool.true_and] at hB
      exact key false l 200 hB (by simp [putRF, hB]) (by simp [putE, hB]) (iput_2 now rn rk rt ra ro h i hi hl hv ht)
    | true =>
      rw [hv, ht, Bool.true_and] at hB
      by_cases hz : rt = 0
      · exact key true l 0 hB (by simp [putRF, hz]) (by simp [putE, hB]) (iput_3 now rn rk rt ra ro h i hi hl hv hz ht)
      · have hvt : (0 ≤ rt) ∧ rt ≤ 1000 := by
          unfold vldB at hv; simp only [Bool.and_eq_true, decide_eq_true_eq] at hv; exact ⟨hv.1.1.2, hv.1.2⟩
        exact key true _ 0 hB (by simp [putRF, hB, hz]) (by simp [putE, hB]) (iput_4 now rn rk rt ra ro h i hi hl hv hvt.1 hvt.2 ht hz)
end

end Go.Proofs.YtapeljiopbkjlaaDoor

namespace Go.Proofs.YtapeljiopbkjlaaDoor
open Go.RowKit Go.Sort
set_option linter.unusedVariables false
set_option maxRecDepth 100000

/-- Where the reference puts a record: behind the last of the first k that does not come after it. -/
def atD (r : Rc) (o : List Rc) : Nat → Nat
  | 0 => 0
  | k + 1 => if ahdB r (o.getD k ⟨⟨#[]⟩, 0, 0, 0, ⟨#[]⟩⟩) then atD r o k else k + 1
def insR (r : Rc) (o : List Rc) : List Rc := o.take (atD r o o.length) ++ r :: o.drop (atD r o o.length)
def stepI (now : Int) (s : ByteArray) (o : List Rc) (e : En) : List Rc := if hitB now s e && decide (e.kd ≠ 0) then insR (rcOf now e) o else o
def lookI (now : Int) (s : ByteArray) (l : List En) : List Rc := l.foldl (stepI now s) []
theorem lookI_take {now : Int} {s : ByteArray} {l : List En} {k : Nat} (hk : k < l.length) : lookI now s (l.take (k + 1)) = stepI now s (lookI now s (l.take k)) l[k] := by
  unfold lookI
  rw [List.take_succ_eq_append_getElem hk, List.foldl_append]; rfl
theorem knwD_take {now : Int} {s : ByteArray} {l : List En} {k : Nat} (hk : k < l.length) : knwD now s (l.take (k + 1)) = (knwD now s (l.take k) || hitB now s l[k]) := by
  unfold knwD
  rw [List.take_succ_eq_append_getElem hk, List.any_append]; simp
theorem atD_le (r : Rc) (o : List Rc) : ∀ k, atD r o k ≤ k
  | 0 => Nat.le_refl _
  | k + 1 => by
    have := atD_le r o k
    simp only [atD]; split <;> omega
theorem insR_len (r : Rc) (o : List Rc) : (insR r o).length = o.length + 1 := by
  have := atD_le r o o.length
  unfold insR; simp; omega
theorem lookI_len (now : Int) (s : ByteArray) (l : List En) : ∀ k, (lookI now s (l.take k)).length ≤ k
  | 0 => by simp [lookI]
  | k + 1 => by
    have ih := lookI_len now s l k
    by_cases hk : k < l.length
    · rw [lookI_take hk]
      unfold stepI; split
      · rw [insR_len]; omega
      · omega
    · rw [List.take_of_length_le (by omega)]
      rw [List.take_of_length_le (by omega)] at ih
      omega
theorem atD_sorted {r : Rc} {o : List Rc} (h : sortedR o) : ∀ k, k ≤ o.length → (∀ (j : Nat) (hj : j < o.length), j < k → atD r o k ≤ j → ltR r o[j]) ∧ (∀ (j : Nat) (hj : j < o.length), j < atD r o k → ¬ ltR r o[j])
  | 0, _ => ⟨fun j hj h => by omega, fun j hj h => by simp [atD] at h⟩
  | k + 1, hk => by
    obtain ⟨h1, h2⟩ := atD_sorted h k (by omega)
    have hg : o.getD k ⟨⟨#[]⟩, 0, 0, 0, ⟨#[]⟩⟩ = o[k] := by simp [List.getD_eq_getElem?_getD, List.getElem?_eq_getElem (show k < o.length by omega)]
    have hd : atD r o (k + 1) = if ahdB r o[k] then atD r o k else k + 1 := by simp only [atD, hg]
    cases hb : ahdB r o[k] with
    | true =>
      rw [hd, hb, if_pos rfl]
      refine ⟨fun j hj hjk ha => ?_, h2⟩
      by_cases e : j = k
      · subst e; simpa [ahdB] using hb
      · exact h1 j hj (by omega) ha
    | false =>
      rw [hd, hb, if_neg (by decide)]
      have hk' : ¬ ltR r o[k] := by simpa [ahdB] using hb
      refine ⟨fun j hj hjk ha => by omega, fun j hj hjk => ?_⟩
      by_cases e : j = k
      · subst e; exact hk'
      · exact ltR_neg hk' (List.pairwise_iff_getElem.1 h j k hj (by omega) (by omega))
theorem insR_sorted {r : Rc} {o : List Rc} (h : sortedR o) : sortedR (insR r o) := by
  obtain ⟨h1, h2⟩ := atD_sorted (r := r) h o.length (Nat.le_refl _)
  unfold insR
  have hq := atD_le r o o.length
  generalize atD r o o.length = q at h1 h2 hq ⊢
  have hsplit : o = o.take q ++ o.drop q := (List.take_append_drop q o).symm
  have ho := h
  rw [hsplit] at ho
  obtain ⟨p1, p2, p3⟩ := List.pairwise_append.1 ho
  refine List.pairwise_append.2 ⟨p1, List.pairwise_cons.2 ⟨fun y hy => ?_, p2⟩, fun x hx y hy => ?_⟩
  · obtain ⟨j, hj, rfl⟩ := List.getElem_of_mem hy
    rw [List.length_drop] at hj
    have hlt := h1 (q + j) (by omega) (by omega) (by omega)
    rw [List.getElem_drop]
    exact fun hc => ltR_irrefl _ (ltR_trans hlt hc)
  · rcases List.mem_cons.1 hy with rfl | hy
    · obtain ⟨j, hj, rfl⟩ := List.getElem_of_mem hx
      rw [List.length_take] at hj
      rw [List.getElem_take]
      exact h2 j (by omega) (by omega)
    · exact p3 x hx y hy
theorem insR_perm (r : Rc) (o : List Rc) : (insR r o).Perm (r :: o) := by
  unfold insR
  refine List.perm_middle.trans ?_
  rw [List.take_append_drop]
theorem lookI_is (now : Int) (s : ByteArray) : ∀ (l : List En) (o : List Rc), sortedR o → sortedR (l.foldl (stepI now s) o) ∧ (l.foldl (stepI now s) o).Perm (recs now s l ++ o)
  | [], o, h => ⟨h, List.Perm.refl _⟩
  | e :: l, o, h => by
    rw [List.foldl_cons]
    have hr : recs now s (e :: l) = if hitB now s e && decide (e.kd ≠ 0) then rcOf now e :: recs now s l else recs now s l := by
      unfold recs
      rw [List.filter_cons]
      split <;> simp
    cases hb : (hitB now s e && decide (e.kd ≠ 0)) with
    | true =>
      have hs : stepI now s o e = insR (rcOf now e) o := by unfold stepI; rw [hb]; rfl
      obtain ⟨i1, i2⟩ := lookI_is now s l (insR (rcOf now e) o) (insR_sorted h)
      rw [hs, hr, hb, if_pos rfl]
      refine ⟨i1, i2.trans ?_⟩
      refine (List.Perm.append_left _ (insR_perm _ _)).trans ?_
      exact List.perm_middle
    | false =>
      have hs : stepI now s o e = o := by unfold stepI; rw [hb]; rfl
      obtain ⟨i1, i2⟩ := lookI_is now s l o h
      rw [hs, hr, hb, if_neg (by decide)]
      exact ⟨i1, i2⟩
theorem lookI_eq {now : Int} {s : ByteArray} {l : List En} (h : l.Pairwise aprt) : lookI now s l = lookD now s l := by
  obtain ⟨h1, h2⟩ := lookI_is now s l [] (by unfold sortedR; exact List.Pairwise.nil)
  rw [List.append_nil] at h2
  exact srt_unique h2 h1 (recs_sep h)
theorem hit_c {now : Int} {s nm : ByteArray} {kd ad ex : Int} {to : ByteArray} {b1 b2 : Bool} (h1 : (nm.toList == s.toList) = b1) (h2 : decide (now < ex) = b2) : hitB now s ⟨nm, kd, ad, to, ex⟩ = (b1 && b2) := by
  unfold hitB liveB; rw [h1, h2]
theorem stepI_no {now : Int} {s : ByteArray} {o : List Rc} {e : En} (h : hitB now s e = false) : stepI now s o e = o := by unfold stepI; rw [h]; rfl
theorem stepI_neg {now : Int} {s : ByteArray} {o : List Rc} {e : En} (h : e.kd = 0) : stepI now s o e = o := by unfold stepI; simp [h]
theorem stepI_yes {now : Int} {s : ByteArray} {o : List Rc} {e : En} (h : hitB now s e = true) (h2 : e.kd ≠ 0) : stepI now s o e = insR (rcOf now e) o := by unfold stepI; simp [h, h2]
theorem elemRc : Tryd.prog.underlying 42 = some (.slice (Tryd.prog.elem 42)) := by kernel_rfl
theorem sizeRc (w : World) : (sizeOf (Tryd.prog.elem 42)).run Tryd.prog w = .ok 5 w := by kernel_rfl
theorem cRc_one (l : List Rc) : ∀ u ∈ l.flatMap cRc, u.oneCell' = true := by
  intro u hu
  obtain ⟨e, _, he⟩ := List.mem_flatMap.1 hu
  exact oneR e u he
section
attribute [local go_sem ↓] run_bsRc
set_option maxRecDepth 100000 in
set_option maxHeartbeats 16000000 in
theorem ilook_w {w : World} {c n cap : Nat} {a : Option Addr} {l : List En} (now : Int) (s : ByteArray) (hc : w.cell? ⟨c, 0, none⟩ = some (.slice a n cap)) (hr : w.ownsRow 0 77 6 (.slice a n cap) n (l.flatMap cIt)) (hn : l.length = n) (hl : n ≤ 32) :
    Calls Tryd.prog 20 #[.pointer (some ⟨c, 0, none⟩), .int .i64 now, .string s] w (LookD w none0 [] (lookI now s l) (knwD now s l) w) := by
  have HO := Lib.hid (Own.nil w none0)
  have HC := Lib.hid hc
  have HR := Lib.hid hr
  have HN := Lib.hid hn
  clear hr hn
  go_enter Tryd.func20, Tryd.ntmps20
  go_wp2
  clear hc
  have hO := HO.out.rowNew 34 5
  replace HO := Lib.hid (show Own w none0 w [rowR (.slice none 0 0) 34 5 0 []] from hO)
  clear hO
  go_loopw [8, 9, 10] (fun ov kv iv wr => ∃ (k m cap2 : Nat) (a2 : Option Addr), k ≤ n ∧ iv = .int .i64 k ∧ (lookI now s (l.take k)).length = m ∧ ov = .slice a2 m cap2 ∧ kv = .bool (knwD now s (l.take k)) ∧ Own w none0 wr [rowR (.slice a2 m cap2) 34 5 m ((lookI now s (l.take k)).flatMap cRc)]) (fun _ _ iv _ => n - (intOf iv).toNat)
  case atStart => exact ⟨0, 0, 0, none, Nat.zero_le _, rfl, rfl, rfl, rfl, HO.out⟩
  case round =>
    obtain ⟨k, m, cap2, a2, hk, rfl, hml, rfl, rfl, hO⟩ := hrel
    replace HO := Lib.hid hO
    clear hO
    have c1 : wr.cell? ⟨c, 0, none⟩ = some (.slice a n cap) := keep HO.out.below HC.out
    by_cases hlt : k < n
    · obtain ⟨g, rfl⟩ := row_some HR.out (by omega)
      have hkl : k < l.length := by have := HN.out; omega
      have yc : ∀ q u, q < 6 → (cIt l[k])[q]? = some u → wr.cell? ⟨g, k * 6 + q, none⟩ = some u := fun q u hq hu => keep HO.out.below ((row_cells HR.out).1 _ _ (by rw [flat_getR cIt 6 (fun _ => rfl) l k hkl q hq]; exact hu))
      have HLI := Lib.hid (lookI_take (now := now) (s := s) hkl)
      have HKI := Lib.hid (knwD_take (now := now) (s := s) hkl)
      have HM := Lib.hid (show m ≤ k by rw [← hml]; exact lookI_len _ _ _ _)
      have HML := Lib.hid hml
      clear hml
      generalize lookI now s (l.take k) = o at *
      generalize knwD now s (l.take k) = kn at *
      generalize l[k] = x at *
      obtain ⟨nm, kd, ad, to, ex⟩ := x
      have y0 : wr.cell? ⟨g, k * 6, none⟩ = some (.string nm) := yc 0 _ (by decide) rfl
      have y1 : wr.cell? ⟨g, k * 6 + 1, none⟩ = some (.int .i64 kd) := yc 1 _ (by decide) rfl
      have y2 : wr.cell? ⟨g, k * 6 + 2, none⟩ = some (.int .i64 0) := yc 2 _ (by decide) rfl
      have y3 : wr.cell? ⟨g, k * 6 + 3, none⟩ = some (.int .i64 ad) := yc 3 _ (by decide) rfl
      have y4 : wr.cell? ⟨g, k * 6 + 4, none⟩ = some (.string to) := yc 4 _ (by decide) rfl
      have y5 : wr.cell? ⟨g, k * 6 + 5, none⟩ = some (.int .i64 ex) := yc 5 _ (by decide) rfl
      clear yc hkl
      obtain ⟨x21, hx21⟩ : ∃ y, wr.alloc (.cells #[.string ⟨#[]⟩, .int .i64 0, .int .i64 0, .int .i64 0, .string ⟨#[]⟩, .int .i64 0] 77) = y := ⟨_, rfl⟩
      obtain ⟨bx, hbx⟩ : ∃ y, wr.heap.size = y := ⟨_, rfl⟩
      have hO := HO.out.alloc (.cells #[.string ⟨#[]⟩, .int .i64 0, .int .i64 0, .int .i64 0, .string ⟨#[]⟩, .int .i64 0] 77)
      rw [hx21, hbx] at hO
      replace HO := Lib.hid (show Own w none0 x21 [rowR (.slice a2 m cap2) 34 5 m (o.flatMap cRc), blkR bx (.cells #[.string ⟨#[]⟩, .int .i64 0, .int .i64 0, .int .i64 0, .string ⟨#[]⟩, .int .i64 0] 77)] from hO)
      clear hO
      have k1_0_22 : x21.cell? ⟨bx, 0, none⟩ = some (.string ⟨#[]⟩) := HO.out.cell 1 rfl 0 rfl
      have lk1_0_22 : x21.frozen? ⟨bx, 0, none⟩ = false := HO.out.frz 1 rfl 0
      have k1_1_23 : x21.cell? ⟨bx, 1, none⟩ = some (.int .i64 0) := HO.out.cell 1 rfl 1 rfl
      have lk1_1_23 : x21.frozen? ⟨bx, 1, none⟩ = false := HO.out.frz 1 rfl 1
      have k1_2_24 : x21.cell? ⟨bx, 2, none⟩ = some (.int .i64 0) := HO.out.cell 1 rfl 2 rfl
      have lk1_2_24 : x21.frozen? ⟨bx, 2, none⟩ = false := HO.out.frz 1 rfl 2
      have k1_3_25 : x21.cell? ⟨bx, 3, none⟩ = some (.int .i64 0) := HO.out.cell 1 rfl 3 rfl
      have lk1_3_25 : x21.frozen? ⟨bx, 3, none⟩ = false := HO.out.frz 1 rfl 3
      have k1_4_26 : x21.cell? ⟨bx, 4, none⟩ = some (.string ⟨#[]⟩) := HO.out.cell 1 rfl 4 rfl
      have lk1_4_26 : x21.frozen? ⟨bx, 4, none⟩ = false := HO.out.frz 1 rfl 4
      have k1_5_27 : x21.cell? ⟨bx, 5, none⟩ = some (.int .i64 0) := HO.out.cell 1 rfl 5 rfl
      have lk1_5_27 : x21.frozen? ⟨bx, 5, none⟩ = false := HO.out.frz 1 rfl 5
      obtain ⟨x28, hx28⟩ : ∃ y, x21.setCell ⟨bx, 0, none⟩ (.string nm) = y := ⟨_, rfl⟩
      have hO := HO.out.setCell 1 rfl 0 (.string nm)
      rw [hx28] at hO
      replace HO := Lib.hid (show Own w none0 x28 [rowR (.slice a2 m cap2) 34 5 m (o.flatMap cRc), blkR bx (.cells #[.string nm, .int .i64 0, .int .i64 0, .int .i64 0, .string ⟨#[]⟩, .int .i64 0] 77)] from hO)
      clear hO
      have k1_1_29 : x28.cell? ⟨bx, 1, none⟩ = some (.int .i64 0) := HO.out.cell 1 rfl 1 rfl
      have lk1_1_29 : x28.frozen? ⟨bx, 1, none⟩ = false := HO.out.frz 1 rfl 1
      have k1_2_30 : x28.cell? ⟨bx, 2, none⟩ = some (.int .i64 0) := HO.out.cell 1 rfl 2 rfl
      have lk1_2_30 : x28.frozen? ⟨bx, 2, none⟩ = false := HO.out.frz 1 rfl 2
      have k1_3_31 : x28.cell? ⟨bx, 3, none⟩ = some (.int .i64 0) := HO.out.cell 1 rfl 3 rfl
      have lk1_3_31 : x28.frozen? ⟨bx, 3, none⟩ = false := HO.out.frz 1 rfl 3
      have k1_4_32 : x28.cell? ⟨bx, 4, none⟩ = some (.string ⟨#[]⟩) := HO.out.cell 1 rfl 4 rfl
      have lk1_4_32 : x28.frozen? ⟨bx, 4, none⟩ = false := HO.out.frz 1 rfl 4
      have k1_5_33 : x28.cell? ⟨bx, 5, none⟩ = some (.int .i64 0) := HO.out.cell 1 rfl 5 rfl
      have lk1_5_33 : x28.frozen? ⟨bx, 5, none⟩ = false := HO.out.frz 1 rfl 5
      obtain ⟨x34, hx34⟩ : ∃ y, x28.setCell ⟨bx, 1, none⟩ (.int .i64 kd) = y := ⟨_, rfl⟩
      have hO := HO.out.setCell 1 rfl 1 (.int .i64 kd)
      rw [hx34] at hO
      replace HO := Lib.hid (show Own w none0 x34 [rowR (.slice a2 m cap2) 34 5 m (o.flatMap cRc), blkR bx (.cells #[.string nm, .int .i64 kd, .int .i64 0, .int .i64 0, .string ⟨#[]⟩, .int .i64 0] 77)] from hO)
      clear hO
      have k1_2_35 : x34.cell? ⟨bx, 2, none⟩ = some (.int .i64 0) := HO.out.cell 1 rfl 2 rfl
      have lk1_2_35 : x34.frozen? ⟨bx, 2, none⟩ = false := HO.out.frz 1 rfl 2
      have k1_3_36 : x34.cell? ⟨bx, 3, none⟩ = some (.int .i64 0) := HO.out.cell 1 rfl 3 rfl
      have lk1_3_36 : x34.frozen? ⟨bx, 3, none⟩ = false := HO.out.frz 1 rfl 3
      have k1_4_37 : x34.cell? ⟨bx, 4, none⟩ = some (.string ⟨#[]⟩) := HO.out.cell 1 rfl 4 rfl
      have lk1_4_37 : x34.frozen? ⟨bx, 4, none⟩ = false := HO.out.frz 1 rfl 4
      have k1_5_38 : x34.cell? ⟨bx, 5, none⟩ = some (.int .i64 0) := HO.out.cell 1 rfl 5 rfl
      have lk1_5_38 : x34.frozen? ⟨bx, 5, none⟩ = false := HO.out.frz 1 rfl 5
      obtain ⟨x39, hx39⟩ : ∃ y, x34.setCell ⟨bx, 2, none⟩ (.int .i64 0) = y := ⟨_, rfl⟩
      have hO := HO.out.setCell 1 rfl 2 (.int .i64 0)
      rw [hx39] at hO
      replace HO := Lib.hid (show Own w none0 x39 [rowR (.slice a2 m cap2) 34 5 m (o.flatMap cRc), blkR bx (.cells #[.string nm, .int .i64 kd, .int .i64 0, .int .i64 0, .string ⟨#[]⟩, .int .i64 0] 77)] from hO)
      clear hO
      have k1_3_40 : x39.cell? ⟨bx, 3, none⟩ = some (.int .i64 0) := HO.out.cell 1 rfl 3 rfl
      have lk1_3_40 : x39.frozen? ⟨bx, 3, none⟩ = false := HO.out.frz 1 rfl 3
      have k1_4_41 : x39.cell? ⟨bx, 4, none⟩ = some (.string ⟨#[]⟩) := HO.out.cell 1 rfl 4 rfl
      have lk1_4_41 : x39.frozen? ⟨bx, 4, none⟩ = false := HO.out.frz 1 rfl 4
      have k1_5_42 : x39.cell? ⟨bx, 5, none⟩ = some (.int .i64 0) := HO.out.cell 1 rfl 5 rfl
      have lk1_5_42 : x39.frozen? ⟨bx, 5, none⟩ = false := HO.out.frz 1 rfl 5
      obtain ⟨x43, hx43⟩ : ∃ y, x39.setCell ⟨bx, 3, none⟩ (.int .i64 ad) = y := ⟨_, rfl⟩
      have hO := HO.out.setCell 1 rfl 3 (.int .i64 ad)
      rw [hx43] at hO
      replace HO := Lib.hid (show Own w none0 x43 [rowR (.slice a2 m cap2) 34 5 m (o.flatMap cRc), blkR bx (.cells #[.string nm, .int .i64 kd, .int .i64 0, .int .i64 ad, .string ⟨#[]⟩, .int .i64 0] 77)] from hO)
      clear hO
      have k1_4_44 : x43.cell? ⟨bx, 4, none⟩ = some (.string ⟨#[]⟩) := HO.out.cell 1 rfl 4 rfl
      have lk1_4_44 : x43.frozen? ⟨bx, 4, none⟩ = false := HO.out.frz 1 rfl 4
      have k1_5_45 : x43.cell? ⟨bx, 5, none⟩ = some (.int .i64 0) := HO.out.cell 1 rfl 5 rfl
      have lk1_5_45 : x43.frozen? ⟨bx, 5, none⟩ = false := HO.out.frz 1 rfl 5
      obtain ⟨x46, hx46⟩ : ∃ y, x43.setCell ⟨bx, 4, none⟩ (.string to) = y := ⟨_, rfl⟩
      have hO := HO.out.setCell 1 rfl 4 (.string to)
      rw [hx46] at hO
      replace HO := Lib.hid (show Own w none0 x46 [rowR (.slice a2 m cap2) 34 5 m (o.flatMap cRc), blkR bx (.cells #[.string nm, .int .i64 kd, .int .i64 0, .int .i64 ad, .string to, .int .i64 0] 77)] from hO)
      clear hO
      have k1_5_47 : x46.cell? ⟨bx, 5, none⟩ = some (.int .i64 0) := HO.out.cell 1 rfl 5 rfl
      have lk1_5_47 : x46.frozen? ⟨bx, 5, none⟩ = false := HO.out.frz 1 rfl 5
      obtain ⟨x48, hx48⟩ : ∃ y, x46.setCell ⟨bx, 5, none⟩ (.int .i64 ex) = y := ⟨_, rfl⟩
      have hO := HO.out.setCell 1 rfl 5 (.int .i64 ex)
      rw [hx48] at hO
      replace HO := Lib.hid (show Own w none0 x48 [rowR (.slice a2 m cap2) 34 5 m (o.flatMap cRc), blkR bx (.cells #[.string nm, .int .i64 kd, .int .i64 0, .int .i64 ad, .string to, .int .i64 ex] 77)] from hO)
      clear hO
      have z1_0 : x48.cell? ⟨bx, 0, none⟩ = some (.string nm) := HO.out.cell 1 rfl 0 rfl
      have z1_1 : x48.cell? ⟨bx, 1, none⟩ = some (.int .i64 kd) := HO.out.cell 1 rfl 1 rfl
      have z1_2 : x48.cell? ⟨bx, 2, none⟩ = some (.int .i64 0) := HO.out.cell 1 rfl 2 rfl
      have z1_3 : x48.cell? ⟨bx, 3, none⟩ = some (.int .i64 ad) := HO.out.cell 1 rfl 3 rfl
      have z1_4 : x48.cell? ⟨bx, 4, none⟩ = some (.string to) := HO.out.cell 1 rfl 4 rfl
      have z1_5 : x48.cell? ⟨bx, 5, none⟩ = some (.int .i64 ex) := HO.out.cell 1 rfl 5 rfl
      cases hn : nm.toList == s.toList with
      | false =>
        have HS1 := Lib.hid (show lookI now s (l.take (k + 1)) = o from HLI.out.trans (stepI_no (hit_c hn rfl)))
        have HS2 := Lib.hid (show knwD now s (l.take (k + 1)) = kn from by rw [HKI.out, hit_c hn rfl]; simp)
        clear HLI HKI
        go_wp2
        go_roundw
        case rel => exact ⟨k + 1, m, cap2, a2, by omega, by go_num, by rw [HS1.out]; exact HML.out, rfl, by rw [HS2.out], by rw [HS1.out]; exact HO.out.take 1⟩
        case measure => simp [intOf]; omega
      | true =>
        by_cases he : now < ex
        · have hd : decide (now < ex) = true := by simpa using he
          by_cases hk0 : kd = 0
          · subst hk0
            have HS1 := Lib.hid (show lookI now s (l.take (k + 1)) = o from HLI.out.trans (stepI_neg rfl))
            have HS2 := Lib.hid (show knwD now s (l.take (k + 1)) = true from by rw [HKI.out, hit_c hn hd]; simp)
            clear HLI HKI
            go_wp2
            go_roundw
            case rel => exact ⟨k + 1, m, cap2, a2, by omega, by go_num, by rw [HS1.out]; exact HML.out, rfl, by rw [HS2.out], by rw [HS1.out]; exact HO.out.take 1⟩
            case measure => simp [intOf]; omega
          · have hkb : (kd == 0) = false := by simpa using hk0
            have HS1 := Lib.hid (show lookI now s (l.take (k + 1)) = insR ⟨nm, kd, wrap64 (ex - now), ad, to⟩ o from HLI.out.trans (stepI_yes (hit_c hn hd) hk0))
            have HS2 := Lib.hid (show knwD now s (l.take (k + 1)) = true from by rw [HKI.out, hit_c hn hd]; simp)
            clear HLI HKI hk0
            obtain ⟨x49, hx49⟩ : ∃ y, x48.alloc (.cells #[.string ⟨#[]⟩, .int .i64 0, .int .i64 0, .int .i64 0, .string ⟨#[]⟩] 34) = y := ⟨_, rfl⟩
            obtain ⟨br, hbr⟩ : ∃ y, x48.heap.size = y := ⟨_, rfl⟩
            have hO := HO.out.alloc (.cells #[.string ⟨#[]⟩, .int .i64 0, .int .i64 0, .int .i64 0, .string ⟨#[]⟩] 34)
            rw [hx49, hbr] at hO
            replace HO := Lib.hid (show Own w none0 x49 [rowR (.slice a2 m cap2) 34 5 m (o.flatMap cRc), blkR bx (.cells #[.string nm, .int .i64 kd, .int .i64 0, .int .i64 ad, .string to, .int .i64 ex] 77), blkR br (.cells #[.string ⟨#[]⟩, .int .i64 0, .int .i64 0, .int .i64 0, .string ⟨#[]⟩] 34)] from hO)
            clear hO
            have k2_0_50 : x49.cell? ⟨br, 0, none⟩ = some (.string ⟨#[]⟩) := HO.out.cell 2 rfl 0 rfl
            have lk2_0_50 : x49.frozen? ⟨br, 0, none⟩ = false := HO.out.frz 2 rfl 0
            have k2_1_51 : x49.cell? ⟨br, 1, none⟩ = some (.int .i64 0) := HO.out.cell 2 rfl 1 rfl
            have lk2_1_51 : x49.frozen? ⟨br, 1, none⟩ = false := HO.out.frz 2 rfl 1
            have k2_2_52 : x49.cell? ⟨br, 2, none⟩ = some (.int .i64 0) := HO.out.cell 2 rfl 2 rfl
            have lk2_2_52 : x49.frozen? ⟨br, 2, none⟩ = false := HO.out.frz 2 rfl 2
            have k2_3_53 : x49.cell? ⟨br, 3, none⟩ = some (.int .i64 0) := HO.out.cell 2 rfl 3 rfl
            have lk2_3_53 : x49.frozen? ⟨br, 3, none⟩ = false := HO.out.frz 2 rfl 3
            have k2_4_54 : x49.cell? ⟨br, 4, none⟩ = some (.string ⟨#[]⟩) := HO.out.cell 2 rfl 4 rfl
            have lk2_4_54 : x49.frozen? ⟨br, 4, none⟩ = false := HO.out.frz 2 rfl 4
            obtain ⟨x55, hx55⟩ : ∃ y, x49.setCell ⟨br, 0, none⟩ (.string nm) = y := ⟨_, rfl⟩
            have hO := HO.out.setCell 2 rfl 0 (.string nm)
            rw [hx55] at hO
            replace HO := Lib.hid (show Own w none0 x55 [rowR (.slice a2 m cap2) 34 5 m (o.flatMap cRc), blkR bx (.cells #[.string nm, .int .i64 kd, .int .i64 0, .int .i64 ad, .string to, .int .i64 ex] 77), blkR br (.cells #[.string nm, .int .i64 0, .int .i64 0, .int .i64 0, .string ⟨#[]⟩] 34)] from hO)
            clear hO
            have k2_1_56 : x55.cell? ⟨br, 1, none⟩ = some (.int .i64 0) := HO.out.cell 2 rfl 1 rfl
            have lk2_1_56 : x55.frozen? ⟨br, 1, none⟩ = false := HO.out.frz 2 rfl 1
            have k2_2_57 : x55.cell? ⟨br, 2, none⟩ = some (.int .i64 0) := HO.out.cell 2 rfl 2 rfl
            have lk2_2_57 : x55.frozen? ⟨br, 2, none⟩ = false := HO.out.frz 2 rfl 2
            have k2_3_58 : x55.cell? ⟨br, 3, none⟩ = some (.int .i64 0) := HO.out.cell 2 rfl 3 rfl
            have lk2_3_58 : x55.frozen? ⟨br, 3, none⟩ = false := HO.out.frz 2 rfl 3
            have k2_4_59 : x55.cell? ⟨br, 4, none⟩ = some (.string ⟨#[]⟩) := HO.out.cell 2 rfl 4 rfl
            have lk2_4_59 : x55.frozen? ⟨br, 4, none⟩ = false := HO.out.frz 2 rfl 4
            obtain ⟨x60, hx60⟩ : ∃ y, x55.setCell ⟨br, 1, none⟩ (.int .i64 kd) = y := ⟨_, rfl⟩
            have hO := HO.out.setCell 2 rfl 1 (.int .i64 kd)
            rw [hx60] at hO
            replace HO := Lib.hid (show Own w none0 x60 [rowR (.slice a2 m cap2) 34 5 m (o.flatMap cRc), blkR bx (.cells #[.string nm, .int .i64 kd, .int .i64 0, .int .i64 ad, .string to, .int .i64 ex] 77), blkR br (.cells #[.string nm, .int .i64 kd, .int .i64 0, .int .i64 0, .string ⟨#[]⟩] 34)] from hO)
            clear hO
            have k2_2_61 : x60.cell? ⟨br, 2, none⟩ = some (.int .i64 0) := HO.out.cell 2 rfl 2 rfl
            have lk2_2_61 : x60.frozen? ⟨br, 2, none⟩ = false := HO.out.frz 2 rfl 2
            have k2_3_62 : x60.cell? ⟨br, 3, none⟩ = some (.int .i64 0) := HO.out.cell 2 rfl 3 rfl
            have lk2_3_62 : x60.frozen? ⟨br, 3, none⟩ = false := HO.out.frz 2 rfl 3
            have k2_4_63 : x60.cell? ⟨br, 4, none⟩ = some (.string ⟨#[]⟩) := HO.out.cell 2 rfl 4 rfl
            have lk2_4_63 : x60.frozen? ⟨br, 4, none⟩ = false := HO.out.frz 2 rfl 4
            obtain ⟨x64, hx64⟩ : ∃ y, x60.setCell ⟨br, 2, none⟩ (.int .i64 0) = y := ⟨_, rfl⟩
            have hO := HO.out.setCell 2 rfl 2 (.int .i64 0)
            rw [hx64] at hO
            replace HO := Lib.hid (show Own w none0 x64 [rowR (.slice a2 m cap2) 34 5 m (o.flatMap cRc), blkR bx (.cells #[.string nm, .int .i64 kd, .int .i64 0, .int .i64 ad, .string to, .int .i64 ex] 77), blkR br (.cells #[.string nm, .int .i64 kd, .int .i64 0, .int .i64 0, .string ⟨#[]⟩] 34)] from hO)
            clear hO
            have k2_3_65 : x64.cell? ⟨br, 3, none⟩ = some (.int .i64 0) := HO.out.cell 2 rfl 3 rfl
            have lk2_3_65 : x64.frozen? ⟨br, 3, none⟩ = false := HO.out.frz 2 rfl 3
            have k2_4_66 : x64.cell? ⟨br, 4, none⟩ = some (.string ⟨#[]⟩) := HO.out.cell 2 rfl 4 rfl
            have lk2_4_66 : x64.frozen? ⟨br, 4, none⟩ = false := HO.out.frz 2 rfl 4
            obtain ⟨x67, hx67⟩ : ∃ y, x64.setCell ⟨br, 3, none⟩ (.int .i64 ad) = y := ⟨_, rfl⟩
            have hO := HO.out.setCell 2 rfl 3 (.int .i64 ad)
            rw [hx67] at hO
            replace HO := Lib.hid (show Own w none0 x67 [rowR (.slice a2 m cap2) 34 5 m (o.flatMap cRc), blkR bx (.cells #[.string nm, .int .i64 kd, .int .i64 0, .int .i64 ad, .string to, .int .i64 ex] 77), blkR br (.cells #[.string nm, .int .i64 kd, .int .i64 0, .int .i64 ad, .string ⟨#[]⟩] 34)] from hO)
            clear hO
            have k2_4_68 : x67.cell? ⟨br, 4, none⟩ = some (.string ⟨#[]⟩) := HO.out.cell 2 rfl 4 rfl
            have lk2_4_68 : x67.frozen? ⟨br, 4, none⟩ = false := HO.out.frz 2 rfl 4
            obtain ⟨x69, hx69⟩ : ∃ y, x67.setCell ⟨br, 4, none⟩ (.string to) = y := ⟨_, rfl⟩
            have hO := HO.out.setCell 2 rfl 4 (.string to)
            rw [hx69] at hO
            replace HO := Lib.hid (show Own w none0 x69 [rowR (.slice a2 m cap2) 34 5 m (o.flatMap cRc), blkR bx (.cells #[.string nm, .int .i64 kd, .int .i64 0, .int .i64 ad, .string to, .int .i64 ex] 77), blkR br (.cells #[.string nm, .int .i64 kd, .int .i64 0, .int .i64 ad, .string to] 34)] from hO)
            clear hO
            have z2_2 : x69.cell? ⟨br, 2, none⟩ = some (.int .i64 0) := HO.out.cell 2 rfl 2 rfl
            have y2_2 : x69.frozen? ⟨br, 2, none⟩ = false := HO.out.frz 2 rfl 2
            have z1_5t : x69.cell? ⟨bx, 5, none⟩ = some (.int .i64 ex) := HO.out.cell 1 rfl 5 rfl
            obtain ⟨x70, hx70⟩ : ∃ y, x69.setCell ⟨br, 2, none⟩ (.int .i64 (wrap64 (ex - now))) = y := ⟨_, rfl⟩
            have hO := HO.out.setCell 2 rfl 2 (.int .i64 (wrap64 (ex - now)))
            rw [hx70] at hO
            replace HO := Lib.hid (show Own w none0 x70 [rowR (.slice a2 m cap2) 34 5 m (o.flatMap cRc), blkR bx (.cells #[.string nm, .int .i64 kd, .int .i64 0, .int .i64 ad, .string to, .int .i64 ex] 77), blkR br (.cells #[.string nm, .int .i64 kd, .int .i64 (wrap64 (ex - now)), .int .i64 ad, .string to] 34)] from hO)
            clear hO
            go_wp2
            clear y0 y1 y2 y3 y4 y5 hx21 hbx k1_0_22 lk1_0_22 k1_1_23 lk1_1_23 k1_2_24 lk1_2_24 k1_3_25 lk1_3_25 k1_4_26 lk1_4_26 k1_5_27 lk1_5_27 hx28 k1_1_29 lk1_1_29 k1_2_30 lk1_2_30 k1_3_31 lk1_3_31 k1_4_32 lk1_4_32 k1_5_33 lk1_5_33 hx34 k1_2_35 lk1_2_35 k1_3_36 lk1_3_36 k1_4_37 lk1_4_37 k1_5_38 lk1_5_38 hx39 k1_3_40 lk1_3_40 k1_4_41 lk1_4_41 k1_5_42 lk1_5_42 hx43 k1_4_44 lk1_4_44 k1_5_45 lk1_5_45 hx46 k1_5_47 lk1_5_47 hx48 z1_0 z1_1 z1_2 z1_3 z1_4 z1_5 hx49 hbr k2_0_50 lk2_0_50 k2_1_51 lk2_1_51 k2_2_52 lk2_2_52 k2_3_53 lk2_3_53 k2_4_54 lk2_4_54 hx55 k2_1_56 lk2_1_56 k2_2_57 lk2_2_57 k2_3_58 lk2_3_58 k2_4_59 lk2_4_59 hx60 k2_2_61 lk2_2_61 k2_3_62 lk2_3_62 k2_4_63 lk2_4_63 hx64 k2_3_65 lk2_3_65 k2_4_66 lk2_4_66 hx67 k2_4_68 lk2_4_68 hx69 z2_2 y2_2 z1_5t hx70
            clear c1
            obtain ⟨tt, htt⟩ : ∃ y, wrap64 (ex - now) = y := ⟨_, rfl⟩
            rw [htt] at HO HS1
            clear htt hd he hn
            replace HO := Lib.hid (show Own w none0 x70 [rowR (.slice a2 m cap2) 34 5 m (o.flatMap cRc), blkR bx (.cells #[.string nm, .int .i64 kd, .int .i64 0, .int .i64 ad, .string to, .int .i64 ex] 77), blkR br (.cells #[.string nm, .int .i64 kd, .int .i64 tt, .int .i64 ad, .string to] 34)] from HO.out)
            have HA0 := Lib.hid (show insR ⟨nm, kd, tt, ad, to⟩ o = o.take (atD ⟨nm, kd, tt, ad, to⟩ o m) ++ ⟨nm, kd, tt, ad, to⟩ :: o.drop (atD ⟨nm, kd, tt, ad, to⟩ o m) by rw [← HML.out]; rfl)
            go_loopw [13] (fun av wq => ∃ j : Nat, j ≤ m ∧ av = .int .i64 j ∧ atD ⟨nm, kd, tt, ad, to⟩ o m = atD ⟨nm, kd, tt, ad, to⟩ o j ∧ Own w none0 wq [rowR (.slice a2 m cap2) 34 5 m (o.flatMap cRc), blkR bx (.cells #[.string nm, .int .i64 kd, .int .i64 0, .int .i64 ad, .string to, .int .i64 ex] 77), blkR br (.cells #[.string nm, .int .i64 kd, .int .i64 tt, .int .i64 ad, .string to] 34)]) (fun av _ => (intOf av).toNat)
            case atStart => exact ⟨m, Nat.le_refl _, rfl, rfl, HO.out⟩
            case round =>
              obtain ⟨j, hj, rfl, hat, hO⟩ := hrel
              replace HO := Lib.hid hO
              clear hO
              have HAT := Lib.hid hat
              clear hat
              by_cases hj0 : 0 < j
              · obtain ⟨i, rfl⟩ : ∃ i, j = i + 1 := ⟨j - 1, by omega⟩
                have hil : i < o.length := by have := HML.out; omega
                have HAE := Lib.hid (show atD ⟨nm, kd, tt, ad, to⟩ o (i + 1) = if ahdB ⟨nm, kd, tt, ad, to⟩ o[i] then atD ⟨nm, kd, tt, ad, to⟩ o i else i + 1 by simp only [atD]; rw [show o.getD i ⟨⟨#[]⟩, 0, 0, 0, ⟨#[]⟩⟩ = o[i] by simp [List.getD_eq_getElem?_getD, List.getElem?_eq_getElem hil]])
                have hrw := HO.out.row 0 rfl
                obtain ⟨g2, rfl⟩ := row_some hrw (by omega)
                have zc : ∀ q u, q < 5 → (cRc o[i])[q]? = some u → wr.cell? ⟨g2, i * 5 + q, none⟩ = some u := fun q u hq hu => (row_cells hrw).1 _ _ (by rw [flat_getR cRc 5 (fun _ => rfl) o i hil q hq]; exact hu)
                generalize hz : o[i] = z at *
                obtain ⟨z0, z1, z2, z3, z4⟩ := z
                clear hz hrw hil
                have f0 := cell_regrown (show wr.cell? ⟨g2, i * 5, none⟩ = some (.string z0) from zc 0 _ (by decide) rfl)
                have f1 := cell_regrown (show wr.cell? ⟨g2, i * 5 + 1, none⟩ = some (.int .i64 z1) from zc 1 _ (by decide) rfl)
                have f2 := cell_regrown (show wr.cell? ⟨g2, i * 5 + 2, none⟩ = some (.int .i64 z2) from zc 2 _ (by decide) rfl)
                have f3 := cell_regrown (show wr.cell? ⟨g2, i * 5 + 3, none⟩ = some (.int .i64 z3) from zc 3 _ (by decide) rfl)
                have f4 := cell_regrown (show wr.cell? ⟨g2, i * 5 + 4, none⟩ = some (.string z4) from zc 4 _ (by decide) rfl)
                have g2_0 := cell_regrown (show wr.cell? ⟨br, 0, none⟩ = some (.string nm) from HO.out.cell 2 rfl 0 rfl)
                have g2_1 := cell_regrown (show wr.cell? ⟨br, 1, none⟩ = some (.int .i64 kd) from HO.out.cell 2 rfl 1 rfl)
                have g2_2 := cell_regrown (show wr.cell? ⟨br, 2, none⟩ = some (.int .i64 tt) from HO.out.cell 2 rfl 2 rfl)
                have g2_3 := cell_regrown (show wr.cell? ⟨br, 3, none⟩ = some (.int .i64 ad) from HO.out.cell 2 rfl 3 rfl)
                have g2_4 := cell_regrown (show wr.cell? ⟨br, 4, none⟩ = some (.string to) from HO.out.cell 2 rfl 4 rfl)
                clear zc
                have hmk := HM.out
                have hw1 : IntKind.i64.wrap (((i + 1 : Nat) : Int) - 1) = (i : Int) := by rw [show (((i + 1 : Nat) : Int) - 1) = (i : Int) by omega]; exact IntWalk.i64_in _ (by omega)
                have hd1 : decide ((0 : Int) < ((i + 1 : Nat) : Int)) = true := decide_eq_true (by omega)
                have hd2 : ¬ (((i + 1 : Nat) : Int)) ≤ 0 := by omega
                cases hb : ahdB ⟨nm, kd, tt, ad, to⟩ ⟨z0, z1, z2, z3, z4⟩ with
                | true =>
                  have HB := Lib.hid hb
                  clear hb
                  have HQ := Lib.hid (show atD ⟨nm, kd, tt, ad, to⟩ o m = atD ⟨nm, kd, tt, ad, to⟩ o i by rw [HAT.out, HAE.out, HB.out]; rfl)
                  clear HAE
                  go_wp2
                  refine wp_region_B (by kernel_rfl) (by kernel_rfl) ?_
                  repeat (go_big_quiet_step ((go_at_call 35; exact Calls.regrown_of (ahead_r HB.out _))))
                  refine wpQuiet_nil ?_
                  intro x83 hbw
                  have hO := HO.out.stay hbw
                  clear f0 f1 f2 f3 f4 g2_0 g2_1 g2_2 g2_3 g2_4
                  replace HO := Lib.hid (show Own w none0 x83 [rowR (.slice (some ⟨g2, 0, none⟩) m cap2) 34 5 m (o.flatMap cRc), blkR bx (.cells #[.string nm, .int .i64 kd, .int .i64 0, .int .i64 ad, .string to, .int .i64 ex] 77), blkR br (.cells #[.string nm, .int .i64 kd, .int .i64 tt, .int .i64 ad, .string to] 34)] from hO)
                  clear hO hbw
                  go_wp2
                  go_roundw
                  case rel => exact ⟨i, by omega, by go_num, HQ.out, HO.out⟩
                  case measure => simp [intOf]
                | false =>
                  have HB := Lib.hid hb
                  clear hb
                  have HQ := Lib.hid (show atD ⟨nm, kd, tt, ad, to⟩ o m = i + 1 by rw [HAT.out, HAE.out, HB.out]; rfl)
                  clear HAE
                  go_wp2
                  refine wp_region_B (by kernel_rfl) (by kernel_rfl) ?_
                  repeat (go_big_quiet_step ((go_at_call 35; exact Calls.regrown_of (ahead_r HB.out _))))
                  refine wpQuiet_nil ?_
                  intro x83 hbw
                  have hO := HO.out.stay hbw
                  clear f0 f1 f2 f3 f4 g2_0 g2_1 g2_2 g2_3 g2_4
                  replace HO := Lib.hid (show Own w none0 x83 [rowR (.slice (some ⟨g2, 0, none⟩) m cap2) 34 5 m (o.flatMap cRc), blkR bx (.cells #[.string nm, .int .i64 kd, .int .i64 0, .int .i64 ad, .string to, .int .i64 ex] 77), blkR br (.cells #[.string nm, .int .i64 kd, .int .i64 tt, .int .i64 ad, .string to] 34)] from hO)
                  clear hO hbw
                  have HXL := Lib.hid (show (o.flatMap cRc).length = m * 5 from (HO.out.row 0 rfl).1)
                  have HIN := Lib.hid (show (insR ⟨nm, kd, tt, ad, to⟩ o).flatMap cRc = (o.flatMap cRc).take ((i + 1) * 5) ++ cRc ⟨nm, kd, tt, ad, to⟩ ++ (o.flatMap cRc).drop ((i + 1) * 5) by rw [HA0.out, HQ.out, List.flatMap_append, List.flatMap_cons, flat_take cRc 5 (fun _ => rfl), flat_dropK cRc 5 (fun _ => rfl), List.append_assoc])
                  have HIL := Lib.hid (show (insR ⟨nm, kd, tt, ad, to⟩ o).length = m + 1 by rw [insR_len, HML.out])
                  obtain ⟨u1, hu1, hr1⟩ := row_upto (P := Tryd.prog) 42 elemRc sizeRc (HO.out.row 0 rfl) (i + 1) (by omega)
                  obtain ⟨u2, hu2, hr2⟩ := row_from (P := Tryd.prog) 42 elemRc sizeRc (HO.out.row 0 rfl) (i + 1) (by omega)
                  have HU1 := Lib.hid hu1
                  have HU2 := Lib.hid hu2
                  have HR1 := Lib.hid hr1
                  have HR2 := Lib.hid hr2
                  clear hu1 hu2 hr1 hr2
                  go_wp2
                  generalize hΓ : ghA w none0 [rowR (.slice (some ⟨g2, 0, none⟩) m cap2) 34 5 m (o.flatMap cRc), blkR bx (.cells #[.string nm, .int .i64 kd, .int .i64 0, .int .i64 ad, .string to, .int .i64 ex] 77), blkR br (.cells #[.string nm, .int .i64 kd, .int .i64 tt, .int .i64 ad, .string to] 34)] 34 5 (.slice none 0 0) [(0, []), (0 + (i + 1), [] ++ (o.flatMap cRc).take ((i + 1) * 5)), (0 + (i + 1) + 1, [] ++ (o.flatMap cRc).take ((i + 1) * 5) ++ cRc ⟨nm, kd, tt, ad, to⟩), (0 + (i + 1) + 1 + (m - (i + 1)), [] ++ (o.flatMap cRc).take ((i + 1) * 5) ++ cRc ⟨nm, kd, tt, ad, to⟩ ++ (o.flatMap cRc).drop ((i + 1) * 5))] = Γ
                  have HST := Lib.hid (show Γ.inv [] x83 by rw [← hΓ]; exact ghA_start (HO.out.rowNew 34 5))
                  have q2_0 : ∀ q : Γ.Wd, q.w.cell? ⟨br, 0, none⟩ = some (.string nm) := by rw [← hΓ]; exact ghA_cell (c := #[.string nm, .int .i64 kd, .int .i64 tt, .int .i64 ad, .string to]) (t := 34) 2 rfl 0 rfl
                  have q2_1 : ∀ q : Γ.Wd, q.w.cell? ⟨br, 1, none⟩ = some (.int .i64 kd) := by rw [← hΓ]; exact ghA_cell (c := #[.string nm, .int .i64 kd, .int .i64 tt, .int .i64 ad, .string to]) (t := 34) 2 rfl 1 rfl
                  have q2_2 : ∀ q : Γ.Wd, q.w.cell? ⟨br, 2, none⟩ = some (.int .i64 tt) := by rw [← hΓ]; exact ghA_cell (c := #[.string nm, .int .i64 kd, .int .i64 tt, .int .i64 ad, .string to]) (t := 34) 2 rfl 2 rfl
                  have q2_3 : ∀ q : Γ.Wd, q.w.cell? ⟨br, 3, none⟩ = some (.int .i64 ad) := by rw [← hΓ]; exact ghA_cell (c := #[.string nm, .int .i64 kd, .int .i64 tt, .int .i64 ad, .string to]) (t := 34) 2 rfl 3 rfl
                  have q2_4 : ∀ q : Γ.Wd, q.w.cell? ⟨br, 4, none⟩ = some (.string to) := by rw [← hΓ]; exact ghA_cell (c := #[.string nm, .int .i64 kd, .int .i64 tt, .int .i64 ad, .string to]) (t := 34) 2 rfl 4 rfl
                  have HΓ := Lib.hid hΓ
                  clear hΓ
                  have ne : Nonempty Γ.Wd := ⟨⟨[], x83, HST.out⟩⟩
                  refine wp_region_H Γ 12 [4, 7, 11] (by kernel_rfl) (by kernel_rfl) (by kernel_rfl) (by kernel_rfl) HST.out ?_
                  simp only [List.take, List.drop]
                  iterate 3 (first | (refine wpH_want (by kernel_rfl) (by kernel_rfl) rfl rfl ?_; intro K hK; go_big_quiet_op; go_big_quiet_on) | (refine wpH_is (by kernel_rfl) (by kernel_rfl) rfl _ (fun _ w _ => rfl) ?_; simp only [Act.put, List.setIfInBounds_toArray, List.set_cons_succ, List.set_cons_zero]))
                  refine wpH_is (by kernel_rfl) (by kernel_rfl) rfl (u1) (fun _ w _ => run_v_ok (HU1.out w)) ?_
                  simp only [Act.put, List.setIfInBounds_toArray, List.set_cons_succ, List.set_cons_zero]
                  refine wpH_chainX 0 (gnth 0) (gnth_lasts _ _) (by kernel_rfl) (by kernel_rfl) (fun a' g hg hgl he => ?_) (fun d hd => ?_)
                  · obtain ⟨hs, hx, _⟩ := he
                    rw [← HΓ.out] at hg ⊢
                    have hs' : a'.eval (.tmp 68) = g.vs.getLastD (.slice none 0 0) := (last_none hgl hs)
                    have hR : Reads g.w (a'.eval (.tmp 71)) (i + 1) ((o.flatMap cRc).take ((i + 1) * 5)) := by
                      have hx' : a'.eval (.tmp 71) = u1 := hx
                      rw [hx']
                      exact HR1.out g.w _ ((ghA_rest hg).row 0 rfl)
                    exact ghA_app 0 (.tmp 68) (.tmp 71) 42 rfl Tryd.underlying42 infoRc rfl (by decide) rfl rfl (by have := HXL.out; rw [List.length_take]; omega) (fun u hu => cRc_one o u (List.mem_of_mem_take hu)) (by have := HM.out; unfold maxLen; omega) (by have := HM.out; omega) hg hgl hs' hR
                  cases hd
                  simp only [List.nil_append]
                  iterate 1 (first | (refine wpH_want (by kernel_rfl) (by kernel_rfl) rfl rfl ?_; intro K hK; go_big_quiet_op; go_big_quiet_on) | (refine wpH_is (by kernel_rfl) (by kernel_rfl) rfl _ (fun _ w _ => rfl) ?_; simp only [Act.put, List.setIfInBounds_toArray, List.set_cons_succ, List.set_cons_zero]))
                  refine wpH_ex (gblk Γ 0 (fun b => .slice (some ⟨b, 0, none⟩) 1 1) (.cells #[.string nm, .int .i64 kd, .int .i64 tt, .int .i64 ad, .string to] 34)) (gblk_lasts _ _ _ _) (by kernel_rfl) (by kernel_rfl) (fun a' g hg he => ?_) (fun d hd => ?_)
                  · obtain ⟨hag, _⟩ := he
                    have hag' : a'.eval (.tmp 73) = .agg #[.string nm, .int .i64 kd, .int .i64 tt, .int .i64 ad, .string to] := hag
                    refine wp_of_value (v := .slice (some ⟨g.w.heap.size, 0, none⟩) 1 1) (w' := g.w.alloc (.cells #[.string nm, .int .i64 kd, .int .i64 tt, .int .i64 ad, .string to] 34)) (run_v_ok ?_) ⟨_, rfl, (Below.refl _ _).alloc (Nat.le_refl _) _, ?_⟩
                    · simp only [List.map_toArray, List.map_cons, List.map_nil, hag']
                      exact run_bsRc _ _ _ _ _ _
                    · have hlt : ∀ b, Γ.own g.vs b → b < g.w.heap.size := by rw [← HΓ.out] at hg ⊢; exact ghA_lt hg
                      exact gblk_new (V := fun b => .slice (some ⟨b, 0, none⟩) 1 1) Γ hlt (Nat.zero_le _)
                  cases hd
                  simp only [List.cons_append, List.nil_append]
                  refine wpH_chainX 1 (gnth 1) (gnth_lasts _ _) (by kernel_rfl) (by kernel_rfl) (fun a' g hg hgl he => ?_) (fun d hd => ?_)
                  · obtain ⟨hs, hx, _⟩ := he
                    rw [← HΓ.out] at hg ⊢
                    have hs' : a'.eval (.tmp 72) = g.vs.getLastD (.slice none 0 0) := (ghA_last (k := 0) (vs := g.vs) (w := g.w) hs hgl).symm
                    have hR : Reads g.w (a'.eval (.tmp 74)) 1 (cRc ⟨nm, kd, tt, ad, to⟩) := by
                      obtain ⟨b, hb, _, hblk, _⟩ := (show gblk Γ 0 (fun b => .slice (some ⟨b, 0, none⟩) 1 1) (.cells #[.string nm, .int .i64 kd, .int .i64 tt, .int .i64 ad, .string to] 34) (a'.eval (.tmp 74)) g from hx)
                      rw [hb]
                      exact reads_blk hblk
                    exact ghA_app 1 (.tmp 72) (.tmp 74) 42 rfl Tryd.underlying42 infoRc rfl (by decide) rfl rfl rfl (oneR ⟨nm, kd, tt, ad, to⟩) (by have := HM.out; unfold maxLen; omega) (by have := HM.out; omega) hg hgl hs' hR
                  cases hd
                  simp only [List.cons_append, List.nil_append]
                  iterate 2 (first | (refine wpH_want (by kernel_rfl) (by kernel_rfl) rfl rfl ?_; intro K hK; go_big_quiet_op; go_big_quiet_on) | (refine wpH_is (by kernel_rfl) (by kernel_rfl) rfl _ (fun _ w _ => rfl) ?_; simp only [Act.put, List.setIfInBounds_toArray, List.set_cons_succ, List.set_cons_zero]))
                  refine wpH_is (by kernel_rfl) (by kernel_rfl) rfl (u2) (fun _ w _ => run_v_ok (HU2.out w)) ?_
                  simp only [Act.put, List.setIfInBounds_toArray, List.set_cons_succ, List.set_cons_zero]
                  refine wpH_chainX 2 (gnth 2) (gnth_lasts _ _) (by kernel_rfl) (by kernel_rfl) (fun a' g hg hgl he => ?_) (fun d hd => ?_)
                  · obtain ⟨hs, hx, _⟩ := he
                    rw [← HΓ.out] at hg ⊢
                    have hs' : a'.eval (.tmp 75) = g.vs.getLastD (.slice none 0 0) := (ghA_last (k := 1) (vs := g.vs) (w := g.w) hs hgl).symm
                    have hR : Reads g.w (a'.eval (.tmp 78)) (m - (i + 1)) ((o.flatMap cRc).drop ((i + 1) * 5)) := by
                      have hx' : a'.eval (.tmp 78) = u2 := hx
                      rw [hx']
                      exact HR2.out g.w _ ((ghA_rest hg).row 0 rfl)
                    exact ghA_app 2 (.tmp 75) (.tmp 78) 42 rfl Tryd.underlying42 infoRc rfl (by decide) rfl rfl (by have := HXL.out; rw [List.length_drop]; omega) (fun u hu => cRc_one o u (List.mem_of_mem_drop hu)) (by have := HM.out; unfold maxLen; omega) (by have := HM.out; omega) hg hgl hs' hR
                  cases hd
                  simp only [List.cons_append, List.nil_append]
                  refine wpH_nil (by kernel_rfl) (by simp) ?_
                  rintro ⟨vs, x96⟩ hg hgl
                  rw [← HΓ.out] at hg
                  simp only [gexAll, List.drop]
                  rintro u72 -
                  rintro u74 -
                  rintro u75 -
                  rintro u79 hlast
                  simp only [Act.put, List.setIfInBounds_toArray, List.set_cons_succ, List.set_cons_zero]
                  have hO := ghA_at hg 3 hgl rfl
                  rw [ghA_last (k := 2) hlast hgl] at hO
                  simp only [List.cons_append, List.nil_append] at hO
                  replace HO := Lib.hid (show Own w none0 x96 [rowR (.slice (some ⟨g2, 0, none⟩) m cap2) 34 5 m (o.flatMap cRc), blkR bx (.cells #[.string nm, .int .i64 kd, .int .i64 0, .int .i64 ad, .string to, .int .i64 ex] 77), blkR br (.cells #[.string nm, .int .i64 kd, .int .i64 tt, .int .i64 ad, .string to] 34), rowR u79 34 5 (0 + (i + 1) + 1 + (m - (i + 1))) ([] ++ (o.flatMap cRc).take ((i + 1) * 5) ++ cRc ⟨nm, kd, tt, ad, to⟩ ++ (o.flatMap cRc).drop ((i + 1) * 5))] from hO)
                  clear q2_0 q2_1 q2_2 q2_3 q2_4 ne HST hg hgl HΓ hlast hO
                  have hO := HO.out.pick (L' := [rowR u79 34 5 (0 + (i + 1) + 1 + (m - (i + 1))) ([] ++ (o.flatMap cRc).take ((i + 1) * 5) ++ cRc ⟨nm, kd, tt, ad, to⟩ ++ (o.flatMap cRc).drop ((i + 1) * 5))]) [3] (by decide) (fun k R hk => by
                    match k, hk with
                    | 0, hk => exact ⟨3, rfl, hk⟩)
                  have e1 : 0 + (i + 1) + 1 + (m - (i + 1)) = m + 1 := by omega
                  have e2 : [] ++ (o.flatMap cRc).take ((i + 1) * 5) ++ cRc ⟨nm, kd, tt, ad, to⟩ ++ (o.flatMap cRc).drop ((i + 1) * 5) = (insR ⟨nm, kd, tt, ad, to⟩ o).flatMap cRc := by rw [HIN.out, List.nil_append]
                  rw [e1, e2] at hO
                  clear e1 e2 HO
                  obtain ⟨a3, cap3, rfl⟩ := row_shape (hO.row 0 rfl)
                  have HO := Lib.hid hO
                  clear hO
                  go_wp2
                  go_roundw
                  case rel => exact ⟨k + 1, m + 1, cap3, a3, by omega, by go_num, by rw [HS1.out]; exact HIL.out, rfl, by rw [HS2.out], by rw [HS1.out]; exact HO.out⟩
                  case measure => simp [intOf]; omega
              · obtain rfl : j = 0 := by omega
                have HQ := Lib.hid (show atD ⟨nm, kd, tt, ad, to⟩ o m = 0 from HAT.out)
                have hd0 : decide ((0 : Int) < ((0 : Nat) : Int)) = false := by simp
                go_wp2
                refine wp_region_B (by kernel_rfl) (by kernel_rfl) ?_
                repeat (go_big_quiet_step (fail))
                refine wpQuiet_nil ?_
                intro x81 hbw
                have hO := HO.out.stay hbw
                replace HO := Lib.hid (show Own w none0 x81 [rowR (.slice a2 m cap2) 34 5 m (o.flatMap cRc), blkR bx (.cells #[.string nm, .int .i64 kd, .int .i64 0, .int .i64 ad, .string to, .int .i64 ex] 77), blkR br (.cells #[.string nm, .int .i64 kd, .int .i64 tt, .int .i64 ad, .string to] 34)] from hO)
                clear hO hbw hd0
                have HXL := Lib.hid (show (o.flatMap cRc).length = m * 5 from (HO.out.row 0 rfl).1)
                have HIN := Lib.hid (show (insR ⟨nm, kd, tt, ad, to⟩ o).flatMap cRc = (o.flatMap cRc).take (0 * 5) ++ cRc ⟨nm, kd, tt, ad, to⟩ ++ (o.flatMap cRc).drop (0 * 5) by rw [HA0.out, HQ.out, List.flatMap_append, List.flatMap_cons, flat_take cRc 5 (fun _ => rfl), flat_dropK cRc 5 (fun _ => rfl), List.append_assoc])
                have HIL := Lib.hid (show (insR ⟨nm, kd, tt, ad, to⟩ o).length = m + 1 by rw [insR_len, HML.out])
                obtain ⟨u1, hu1, hr1⟩ := row_upto (P := Tryd.prog) 42 elemRc sizeRc (HO.out.row 0 rfl) 0 (by omega)
                obtain ⟨u2, hu2, hr2⟩ := row_from (P := Tryd.prog) 42 elemRc sizeRc (HO.out.row 0 rfl) 0 (by omega)
                have HU1 := Lib.hid hu1
                have HU2 := Lib.hid hu2
                have HR1 := Lib.hid hr1
                have HR2 := Lib.hid hr2
                clear hu1 hu2 hr1 hr2
                go_wp2
                generalize hΓ : ghA w none0 [rowR (.slice a2 m cap2) 34 5 m (o.flatMap cRc), blkR bx (.cells #[.string nm, .int .i64 kd, .int .i64 0, .int .i64 ad, .string to, .int .i64 ex] 77), blkR br (.cells #[.string nm, .int .i64 kd, .int .i64 tt, .int .i64 ad, .string to] 34)] 34 5 (.slice none 0 0) [(0, []), (0 + 0, [] ++ (o.flatMap cRc).take (0 * 5)), (0 + 0 + 1, [] ++ (o.flatMap cRc).take (0 * 5) ++ cRc ⟨nm, kd, tt, ad, to⟩), (0 + 0 + 1 + (m - 0), [] ++ (o.flatMap cRc).take (0 * 5) ++ cRc ⟨nm, kd, tt, ad, to⟩ ++ (o.flatMap cRc).drop (0 * 5))] = Γ
                have HST := Lib.hid (show Γ.inv [] x81 by rw [← hΓ]; exact ghA_start (HO.out.rowNew 34 5))
                have q2_0 : ∀ q : Γ.Wd, q.w.cell? ⟨br, 0, none⟩ = some (.string nm) := by rw [← hΓ]; exact ghA_cell (c := #[.string nm, .int .i64 kd, .int .i64 tt, .int .i64 ad, .string to]) (t := 34) 2 rfl 0 rfl
                have q2_1 : ∀ q : Γ.Wd, q.w.cell? ⟨br, 1, none⟩ = some (.int .i64 kd) := by rw [← hΓ]; exact ghA_cell (c := #[.string nm, .int .i64 kd, .int .i64 tt, .int .i64 ad, .string to]) (t := 34) 2 rfl 1 rfl
                have q2_2 : ∀ q : Γ.Wd, q.w.cell? ⟨br, 2, none⟩ = some (.int .i64 tt) := by rw [← hΓ]; exact ghA_cell (c := #[.string nm, .int .i64 kd, .int .i64 tt, .int .i64 ad, .string to]) (t := 34) 2 rfl 2 rfl
                have q2_3 : ∀ q : Γ.Wd, q.w.cell? ⟨br, 3, none⟩ = some (.int .i64 ad) := by rw [← hΓ]; exact ghA_cell (c := #[.string nm, .int .i64 kd, .int .i64 tt, .int .i64 ad, .string to]) (t := 34) 2 rfl 3 rfl
                have q2_4 : ∀ q : Γ.Wd, q.w.cell? ⟨br, 4, none⟩ = some (.string to) := by rw [← hΓ]; exact ghA_cell (c := #[.string nm, .int .i64 kd, .int .i64 tt, .int .i64 ad, .string to]) (t := 34) 2 rfl 4 rfl
                have HΓ := Lib.hid hΓ
                clear hΓ
                have ne : Nonempty Γ.Wd := ⟨⟨[], x81, HST.out⟩⟩
                refine wp_region_H Γ 12 [4, 7, 11] (by kernel_rfl) (by kernel_rfl) (by kernel_rfl) (by kernel_rfl) HST.out ?_
                simp only [List.take, List.drop]
                iterate 3 (first | (refine wpH_want (by kernel_rfl) (by kernel_rfl) rfl rfl ?_; intro K hK; go_big_quiet_op; go_big_quiet_on) | (refine wpH_is (by kernel_rfl) (by kernel_rfl) rfl _ (fun _ w _ => rfl) ?_; simp only [Act.put, List.setIfInBounds_toArray, List.set_cons_succ, List.set_cons_zero]))
                refine wpH_is (by kernel_rfl) (by kernel_rfl) rfl (u1) (fun _ w _ => run_v_ok (HU1.out w)) ?_
                simp only [Act.put, List.setIfInBounds_toArray, List.set_cons_succ, List.set_cons_zero]
                refine wpH_chainX 0 (gnth 0) (gnth_lasts _ _) (by kernel_rfl) (by kernel_rfl) (fun a' g hg hgl he => ?_) (fun d hd => ?_)
                · obtain ⟨hs, hx, _⟩ := he
                  rw [← HΓ.out] at hg ⊢
                  have hs' : a'.eval (.tmp 68) = g.vs.getLastD (.slice none 0 0) := (last_none hgl hs)
                  have hR : Reads g.w (a'.eval (.tmp 71)) 0 ((o.flatMap cRc).take (0 * 5)) := by
                    have hx' : a'.eval (.tmp 71) = u1 := hx
                    rw [hx']
                    exact HR1.out g.w _ ((ghA_rest hg).row 0 rfl)
                  exact ghA_app 0 (.tmp 68) (.tmp 71) 42 rfl Tryd.underlying42 infoRc rfl (by decide) rfl rfl (by have := HXL.out; rw [List.length_take]; omega) (fun u hu => cRc_one o u (List.mem_of_mem_take hu)) (by have := HM.out; unfold maxLen; omega) (by have := HM.out; omega) hg hgl hs' hR
                cases hd
                simp only [List.nil_append]
                iterate 1 (first | (refine wpH_want (by kernel_rfl) (by kernel_rfl) rfl rfl ?_; intro K hK; go_big_quiet_op; go_big_quiet_on) | (refine wpH_is (by kernel_rfl) (by kernel_rfl) rfl _ (fun _ w _ => rfl) ?_; simp only [Act.put, List.setIfInBounds_toArray, List.set_cons_succ, List.set_cons_zero]))
                refine wpH_ex (gblk Γ 0 (fun b => .slice (some ⟨b, 0, none⟩) 1 1) (.cells #[.string nm, .int .i64 kd, .int .i64 tt, .int .i64 ad, .string to] 34)) (gblk_lasts _ _ _ _) (by kernel_rfl) (by kernel_rfl) (fun a' g hg he => ?_) (fun d hd => ?_)
                · obtain ⟨hag, _⟩ := he
                  have hag' : a'.eval (.tmp 73) = .agg #[.string nm, .int .i64 kd, .int .i64 tt, .int .i64 ad, .string to] := hag
                  refine wp_of_value (v := .slice (some ⟨g.w.heap.size, 0, none⟩) 1 1) (w' := g.w.alloc (.cells #[.string nm, .int .i64 kd, .int .i64 tt, .int .i64 ad, .string to] 34)) (run_v_ok ?_) ⟨_, rfl, (Below.refl _ _).alloc (Nat.le_refl _) _, ?_⟩
                  · simp only [List.map_toArray, List.map_cons, List.map_nil, hag']
                    exact run_bsRc _ _ _ _ _ _
                  · have hlt : ∀ b, Γ.own g.vs b → b < g.w.heap.size := by rw [← HΓ.out] at hg ⊢; exact ghA_lt hg
                    exact gblk_new (V := fun b => .slice (some ⟨b, 0, none⟩) 1 1) Γ hlt (Nat.zero_le _)
                cases hd
                simp only [List.cons_append, List.nil_append]
                refine wpH_chainX 1 (gnth 1) (gnth_lasts _ _) (by kernel_rfl) (by kernel_rfl) (fun a' g hg hgl he => ?_) (fun d hd => ?_)
                · obtain ⟨hs, hx, _⟩ := he
                  rw [← HΓ.out] at hg ⊢
                  have hs' : a'.eval (.tmp 72) = g.vs.getLastD (.slice none 0 0) := (ghA_last (k := 0) (vs := g.vs) (w := g.w) hs hgl).symm
                  have hR : Reads g.w (a'.eval (.tmp 74)) 1 (cRc ⟨nm, kd, tt, ad, to⟩) := by
                    obtain ⟨b, hb, _, hblk, _⟩ := (show gblk Γ 0 (fun b => .slice (some ⟨b, 0, none⟩) 1 1) (.cells #[.string nm, .int .i64 kd, .int .i64 tt, .int .i64 ad, .string to] 34) (a'.eval (.tmp 74)) g from hx)
                    rw [hb]
                    exact reads_blk hblk
                  exact ghA_app 1 (.tmp 72) (.tmp 74) 42 rfl Tryd.underlying42 infoRc rfl (by decide) rfl rfl rfl (oneR ⟨nm, kd, tt, ad, to⟩) (by have := HM.out; unfold maxLen; omega) (by have := HM.out; omega) hg hgl hs' hR
                cases hd
                simp only [List.cons_append, List.nil_append]
                iterate 2 (first | (refine wpH_want (by kernel_rfl) (by kernel_rfl) rfl rfl ?_; intro K hK; go_big_quiet_op; go_big_quiet_on) | (refine wpH_is (by kernel_rfl) (by kernel_rfl) rfl _ (fun _ w _ => rfl) ?_; simp only [Act.put, List.setIfInBounds_toArray, List.set_cons_succ, List.set_cons_zero]))
                refine wpH_is (by kernel_rfl) (by kernel_rfl) rfl (u2) (fun _ w _ => run_v_ok (HU2.out w)) ?_
                simp only [Act.put, List.setIfInBounds_toArray, List.set_cons_succ, List.set_cons_zero]
                refine wpH_chainX 2 (gnth 2) (gnth_lasts _ _) (by kernel_rfl) (by kernel_rfl) (fun a' g hg hgl he => ?_) (fun d hd => ?_)
                · obtain ⟨hs, hx, _⟩ := he
                  rw [← HΓ.out] at hg ⊢
                  have hs' : a'.eval (.tmp 75) = g.vs.getLastD (.slice none 0 0) := (ghA_last (k := 1) (vs := g.vs) (w := g.w) hs hgl).symm
                  have hR : Reads g.w (a'.eval (.tmp 78)) (m - 0) ((o.flatMap cRc).drop (0 * 5)) := by
                    have hx' : a'.eval (.tmp 78) = u2 := hx
                    rw [hx']
                    exact HR2.out g.w _ ((ghA_rest hg).row 0 rfl)
                  exact ghA_app 2 (.tmp 75) (.tmp 78) 42 rfl Tryd.underlying42 infoRc rfl (by decide) rfl rfl (by have := HXL.out; rw [List.length_drop]; omega) (fun u hu => cRc_one o u (List.mem_of_mem_drop hu)) (by have := HM.out; unfold maxLen; omega) (by have := HM.out; omega) hg hgl hs' hR
                cases hd
                simp only [List.cons_append, List.nil_append]
                refine wpH_nil (by kernel_rfl) (by simp) ?_
                rintro ⟨vs, x96⟩ hg hgl
                rw [← HΓ.out] at hg
                simp only [gexAll, List.drop]
                rintro u72 -
                rintro u74 -
                rintro u75 -
                rintro u79 hlast
                simp only [Act.put, List.setIfInBounds_toArray, List.set_cons_succ, List.set_cons_zero]
                have hO := ghA_at hg 3 hgl rfl
                rw [ghA_last (k := 2) hlast hgl] at hO
                simp only [List.cons_append, List.nil_append] at hO
                replace HO := Lib.hid (show Own w none0 x96 [rowR (.slice a2 m cap2) 34 5 m (o.flatMap cRc), blkR bx (.cells #[.string nm, .int .i64 kd, .int .i64 0, .int .i64 ad, .string to, .int .i64 ex] 77), blkR br (.cells #[.string nm, .int .i64 kd, .int .i64 tt, .int .i64 ad, .string to] 34), rowR u79 34 5 (0 + 0 + 1 + (m - 0)) ([] ++ (o.flatMap cRc).take (0 * 5) ++ cRc ⟨nm, kd, tt, ad, to⟩ ++ (o.flatMap cRc).drop (0 * 5))] from hO)
                clear q2_0 q2_1 q2_2 q2_3 q2_4 ne HST hg hgl HΓ hlast hO
                have hO := HO.out.pick (L' := [rowR u79 34 5 (0 + 0 + 1 + (m - 0)) ([] ++ (o.flatMap cRc).take (0 * 5) ++ cRc ⟨nm, kd, tt, ad, to⟩ ++ (o.flatMap cRc).drop (0 * 5))]) [3] (by decide) (fun k R hk => by
                  match k, hk with
                  | 0, hk => exact ⟨3, rfl, hk⟩)
                have e1 : 0 + 0 + 1 + (m - 0) = m + 1 := by omega
                have e2 : [] ++ (o.flatMap cRc).take (0 * 5) ++ cRc ⟨nm, kd, tt, ad, to⟩ ++ (o.flatMap cRc).drop (0 * 5) = (insR ⟨nm, kd, tt, ad, to⟩ o).flatMap cRc := by rw [HIN.out, List.nil_append]
                rw [e1, e2] at hO
                clear e1 e2 HO
                obtain ⟨a3, cap3, rfl⟩ := row_shape (hO.row 0 rfl)
                have HO := Lib.hid hO
                clear hO
                go_wp2
                go_roundw
                case rel => exact ⟨k + 1, m + 1, cap3, a3, by omega, by go_num, by rw [HS1.out]; exact HIL.out, rfl, by rw [HS2.out], by rw [HS1.out]; exact HO.out⟩
                case measure => simp [intOf]; omega
        · replace he : ex ≤ now := by omega
          have hd : decide (now < ex) = false := by simp; omega
          have HS1 := Lib.hid (show lookI now s (l.take (k + 1)) = o from HLI.out.trans (stepI_no (hit_c hn hd)))
          have HS2 := Lib.hid (show knwD now s (l.take (k + 1)) = kn from by rw [HKI.out, hit_c hn hd]; simp)
          clear HLI HKI
          go_wp2
          go_roundw
          case rel => exact ⟨k + 1, m, cap2, a2, by omega, by go_num, by rw [HS1.out]; exact HML.out, rfl, by rw [HS2.out], by rw [HS1.out]; exact HO.out.take 1⟩
          case measure => simp [intOf]; omega
    · obtain rfl : k = n := by omega
      rw [show l.take k = l by rw [← HN.out, List.take_length]] at HO hml ⊢
      have HML := Lib.hid hml
      clear hml
      go_wp2
      go_ret2
      refine ⟨a2, cap2, by rw [HML.out]; rfl, ?_, HO.out.size⟩
      rw [HML.out]
      exact HO.out
end
theorem ilook_d {w0 w : World} {D : Nat → Prop} {L : List Res} {c : Nat} {l : List En} (now : Int) (s : ByteArray) (h : Own w0 D w L) (i : Nat) (hi : L[i]? = some (resI c l)) (hl : l.length ≤ 32) (ha : l.Pairwise aprt) {m : List Rc} {k : Bool} (hm : lookD now s l = m) (hk : knwD now s l = k) :
    Calls Tryd.prog 20 #[.pointer (some ⟨c, 0, none⟩), .int .i64 now, .string s] w (LookD w0 D L m k w) := by
  obtain ⟨F, hF, _, _⟩ := h.step hi
  obtain ⟨v, hO⟩ := openI' (Own.one hF)
  obtain ⟨n, hn⟩ : ∃ n, l.length = n := ⟨_, rfl⟩
  have hO : Own w F w [blkI c v, rowR v 77 6 l.length (l.flatMap cIt)] := hO
  rw [hn] at hO hl
  obtain ⟨a, cap, rfl⟩ := row_shape (hO.row 1 rfl)
  refine (ilook_w now s (hO.cell 0 rfl 0 rfl) (hO.row 1 rfl) hn hl).mono ?_
  rintro e w' ⟨a2, cap2, he, hO2, hs⟩
  rw [lookI_eq ha, hm] at he hO2
  rw [hk] at he
  exact ⟨a2, cap2, he, h.joinC hO2, hs⟩

end Go.Proofs.YtapeljiopbkjlaaDoor
