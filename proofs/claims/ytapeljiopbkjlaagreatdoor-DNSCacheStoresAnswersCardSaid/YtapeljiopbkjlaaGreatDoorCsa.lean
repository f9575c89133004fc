/- Contract of sane of chapter 20. Printed by wip/tools/gen20r.py. -/
import Derived.Test.YtapeljiopbkjlaaGreatDoorCl3
import Derived.Test.YtapeljiopbkjlaaGreatDoorCsm
import Derived.Test.YtapeljiopbkjlaaGreatDoorClk
namespace Go.Proofs.YtapeljiopbkjlaaGreatDoor
open Go.RowKit Go.Sort
set_option linter.unusedVariables false
set_option maxRecDepth 100000

theorem last_get {α : Type} (L : List α) (x : α) : (L ++ [x])[L.length]? = some x := by simp
section
variable {w0 w : World} {D : Nat → Prop} {L : List Res} {c : Nat} {l l' : List En} {a : Addr}
theorem put_r (now : Int) (r : Rc) (h : Own w0 D w L) (i : Nat) (hi : L[i]? = some (resC c l)) (hg : w.cell? ⟨errG, 0, none⟩ = some (errV a)) (hn : r.nm.size ≤ maxLen) (ht : r.to.size ≤ maxLen) (hl : l.length ≤ 32) {e : Int} (h1 : putF now r l = l') (h2 : putE now r = e) :
    Calls Tryz.prog 10 #[.pointer (some ⟨c, 0, none⟩), .int .i64 now, rcV r] w (OPost w0 D (L.set i (resC c l')) (.int .i64 e) w) := by
  subst h1
  subst h2
  exact put_o now r h i hi hg hn ht hl
theorem neg_r (now : Int) (nm : ByteArray) (tt : Int) (h : Own w0 D w L) (i : Nat) (hi : L[i]? = some (resC c l)) (hg : w.cell? ⟨errG, 0, none⟩ = some (errV a)) (hn : nm.size ≤ maxLen) (hl : l.length ≤ 32) {e : Int} (h1 : negF now nm tt l = l') (h2 : negE now nm tt = e) :
    Calls Tryz.prog 13 #[.pointer (some ⟨c, 0, none⟩), .int .i64 now, .string nm, .int .i64 tt] w (OPost w0 D (L.set i (resC c l')) (.int .i64 e) w) := by
  subst h1
  subst h2
  exact neg_o now nm tt h i hi hg hn hl
theorem tick_r (now : Int) (h : Own w0 D w L) (i : Nat) (hi : L[i]? = some (resC c l)) (hl : l.length ≤ 1000) (h1 : tickF now l = l') :
    Calls Tryz.prog 14 #[.pointer (some ⟨c, 0, none⟩), .int .i64 now] w (OPost w0 D (L.set i (resC c l')) (.tuple #[]) w) := by
  subst h1
  exact tick_o now h i hi hl
theorem look_r (now : Int) (s : ByteArray) (h : Own w0 D w L) (i : Nat) (hi : L[i]? = some (resC c l)) (hl : l.length ≤ 1000) {rk : List Rc × Bool} (h1 : lookL now s l = rk) :
    Calls Tryz.prog 11 #[.pointer (some ⟨c, 0, none⟩), .int .i64 now, .string s] w (LookPost w0 D L rk w) := by
  subst h1
  exact look_o now s h i hi hl
/-- A lookup that yields no record. -/
def LookNone (w0 : World) (D : Nat → Prop) (L : List Res) (k : Bool) (w : World) (e : Ending) (w' : World) : Prop := ∃ a cap, e = .returned (.tuple #[.slice a 0 cap, .bool k]) ∧ Own w0 D w' (L ++ [rowR (.slice a 0 cap) 28 5 0 []]) ∧ w.heap.size ≤ w'.heap.size
theorem look_none (now : Int) (s : ByteArray) (h : Own w0 D w L) (i : Nat) (hi : L[i]? = some (resC c l)) (hl : l.length ≤ 1000) {k : Bool} (h1 : lookL now s l = ([], k)) :
    Calls Tryz.prog 11 #[.pointer (some ⟨c, 0, none⟩), .int .i64 now, .string s] w (LookNone w0 D L k w) :=
  (look_r now s h i hi hl h1).mono fun e w' ⟨v, d', he, hp, hs, hO, hz⟩ => by
    have hd : d' = [] := by simpa using hp
    subst hd
    obtain ⟨a, cap, rfl⟩ := row_shape (hO.row L.length (last_get L _))
    exact ⟨a, cap, he, hO, hz⟩
def LookOne (w0 : World) (D : Nat → Prop) (L : List Res) (r : Rc) (w : World) (e : Ending) (w' : World) : Prop := ∃ a cap, e = .returned (.tuple #[.slice a 1 cap, .bool true]) ∧ Own w0 D w' (L ++ [rowR (.slice a 1 cap) 28 5 1 ([r].flatMap cRc)]) ∧ w.heap.size ≤ w'.heap.size
theorem look_one (now : Int) (s : ByteArray) (h : Own w0 D w L) (i : Nat) (hi : L[i]? = some (resC c l)) (hl : l.length ≤ 1000) {r : Rc} (h1 : lookL now s l = ([r], true)) :
    Calls Tryz.prog 11 #[.pointer (some ⟨c, 0, none⟩), .int .i64 now, .string s] w (LookOne w0 D L r w) :=
  (look_r now s h i hi hl h1).mono fun e w' ⟨v, d', he, hp, hs, hO, hz⟩ => by
    have hd : d' = [r] := by simpa using hp
    subst hd
    obtain ⟨a, cap, rfl⟩ := row_shape (hO.row L.length (last_get L _))
    exact ⟨a, cap, he, hO, hz⟩
end
/-- A block of one record, as a row. -/
theorem row_of_blk {w : World} {b : Nat} {r : Rc} (h : w.heap[b]? = some (.cells (rcA r) 28)) : w.ownsRow 0 28 5 (.slice (some ⟨b, 0, none⟩) 1 1) 1 ([r].flatMap cRc) :=
  ⟨rfl, .inr ⟨b, 1, rcA r, rfl, Nat.zero_le _, h, Nat.le_refl _, by decide, rfl, rfl⟩⟩
theorem run_bdR1 (w : World) : (Instr.build 28 #[(0, .string ⟨#[97, 46, 98]⟩), (1, .int .i64 1), (2, .int .i64 5), (3, .int .i64 9)]).run Tryz.prog w = .ok (rcV ⟨⟨#[97, 46, 98]⟩, 1, 5, 9, ⟨#[]⟩⟩) w := by kernel_rfl
theorem run_bdR0 (w : World) : (Instr.build 28 #[]).run Tryz.prog w = .ok (rcV ⟨⟨#[]⟩, 0, 0, 0, ⟨#[]⟩⟩) w := by kernel_rfl
set_option maxRecDepth 100000 in
set_option maxHeartbeats 8000000 in
theorem sane_o {w0 w : World} {a : Addr} (HO0 : Own w0 none0 w []) (hg0 : w0.cell? ⟨errG, 0, none⟩ = some (errV a)) : Calls Tryz.prog 4 #[] w (OPost w0 none0 [] (.bool true) w) := by
  have HO := Lib.hid HO0
  have HW := Lib.hid (Nat.le_refl w.heap.size)
  have HG := Lib.hid hg0
  clear HO0 hg0
  have rb1 := run_bdR1
  have rb0 := run_bdR0
  go_enter Tryz.func4, Tryz.ntmps4
  go_wp2_with fail
  refine (cnew_o HO.out).mono ?_
  rintro e x1 ⟨c, rfl, hO, hs⟩
  replace HO := Lib.hid (show Own w0 none0 x1 [resC c []] from hO)
  replace HW := Lib.hid (Nat.le_trans HW.out hs)
  clear hO hs
  obtain ⟨x2, hx2⟩ : ∃ y, x1.alloc (.cells #[.string ⟨#[]⟩, .int .i64 0, .int .i64 0, .int .i64 0, .string ⟨#[]⟩] 28) = y := ⟨_, rfl⟩
  obtain ⟨br, hbr⟩ : ∃ y, x1.heap.size = y := ⟨_, rfl⟩
  have hO := HO.out.alloc (.cells #[.string ⟨#[]⟩, .int .i64 0, .int .i64 0, .int .i64 0, .string ⟨#[]⟩] 28)
  rw [hx2, hbr] at hO
  replace HO := Lib.hid (show Own w0 none0 x2 [resC c [], blkR br (.cells #[.string ⟨#[]⟩, .int .i64 0, .int .i64 0, .int .i64 0, .string ⟨#[]⟩] 28)] from hO)
  clear hO
  have hal : x1.heap.size ≤ x2.heap.size := by rw [← hx2]; simp
  replace HW := Lib.hid (Nat.le_trans HW.out hal)
  clear hal
  have k1_0_3 : x2.cell? ⟨br, 0, none⟩ = some (.string ⟨#[]⟩) := HO.out.cell 1 rfl 0 rfl
  have lk1_0_3 : x2.frozen? ⟨br, 0, none⟩ = false := HO.out.frz 1 rfl 0
  have k1_1_4 : x2.cell? ⟨br, 1, none⟩ = some (.int .i64 0) := HO.out.cell 1 rfl 1 rfl
  have lk1_1_4 : x2.frozen? ⟨br, 1, none⟩ = false := HO.out.frz 1 rfl 1
  have k1_2_5 : x2.cell? ⟨br, 2, none⟩ = some (.int .i64 0) := HO.out.cell 1 rfl 2 rfl
  have lk1_2_5 : x2.frozen? ⟨br, 2, none⟩ = false := HO.out.frz 1 rfl 2
  have k1_3_6 : x2.cell? ⟨br, 3, none⟩ = some (.int .i64 0) := HO.out.cell 1 rfl 3 rfl
  have lk1_3_6 : x2.frozen? ⟨br, 3, none⟩ = false := HO.out.frz 1 rfl 3
  have k1_4_7 : x2.cell? ⟨br, 4, none⟩ = some (.string ⟨#[]⟩) := HO.out.cell 1 rfl 4 rfl
  have lk1_4_7 : x2.frozen? ⟨br, 4, none⟩ = false := HO.out.frz 1 rfl 4
  obtain ⟨x8, hx8⟩ : ∃ y, x2.setCell ⟨br, 0, none⟩ (.string ⟨#[97, 46, 98]⟩) = y := ⟨_, rfl⟩
  have hO := HO.out.setCell 1 rfl 0 (.string ⟨#[97, 46, 98]⟩)
  rw [hx8] at hO
  replace HO := Lib.hid (show Own w0 none0 x8 [resC c [], blkR br (.cells #[.string ⟨#[97, 46, 98]⟩, .int .i64 0, .int .i64 0, .int .i64 0, .string ⟨#[]⟩] 28)] from hO)
  clear hO
  have k1_1_9 : x8.cell? ⟨br, 1, none⟩ = some (.int .i64 0) := HO.out.cell 1 rfl 1 rfl
  have lk1_1_9 : x8.frozen? ⟨br, 1, none⟩ = false := HO.out.frz 1 rfl 1
  have k1_2_10 : x8.cell? ⟨br, 2, none⟩ = some (.int .i64 0) := HO.out.cell 1 rfl 2 rfl
  have lk1_2_10 : x8.frozen? ⟨br, 2, none⟩ = false := HO.out.frz 1 rfl 2
  have k1_3_11 : x8.cell? ⟨br, 3, none⟩ = some (.int .i64 0) := HO.out.cell 1 rfl 3 rfl
  have lk1_3_11 : x8.frozen? ⟨br, 3, none⟩ = false := HO.out.frz 1 rfl 3
  have k1_4_12 : x8.cell? ⟨br, 4, none⟩ = some (.string ⟨#[]⟩) := HO.out.cell 1 rfl 4 rfl
  have lk1_4_12 : x8.frozen? ⟨br, 4, none⟩ = false := HO.out.frz 1 rfl 4
  obtain ⟨x13, hx13⟩ : ∃ y, x8.setCell ⟨br, 1, none⟩ (.int .i64 1) = y := ⟨_, rfl⟩
  have hO := HO.out.setCell 1 rfl 1 (.int .i64 1)
  rw [hx13] at hO
  replace HO := Lib.hid (show Own w0 none0 x13 [resC c [], blkR br (.cells #[.string ⟨#[97, 46, 98]⟩, .int .i64 1, .int .i64 0, .int .i64 0, .string ⟨#[]⟩] 28)] from hO)
  clear hO
  have k1_2_14 : x13.cell? ⟨br, 2, none⟩ = some (.int .i64 0) := HO.out.cell 1 rfl 2 rfl
  have lk1_2_14 : x13.frozen? ⟨br, 2, none⟩ = false := HO.out.frz 1 rfl 2
  have k1_3_15 : x13.cell? ⟨br, 3, none⟩ = some (.int .i64 0) := HO.out.cell 1 rfl 3 rfl
  have lk1_3_15 : x13.frozen? ⟨br, 3, none⟩ = false := HO.out.frz 1 rfl 3
  have k1_4_16 : x13.cell? ⟨br, 4, none⟩ = some (.string ⟨#[]⟩) := HO.out.cell 1 rfl 4 rfl
  have lk1_4_16 : x13.frozen? ⟨br, 4, none⟩ = false := HO.out.frz 1 rfl 4
  obtain ⟨x17, hx17⟩ : ∃ y, x13.setCell ⟨br, 2, none⟩ (.int .i64 5) = y := ⟨_, rfl⟩
  have hO := HO.out.setCell 1 rfl 2 (.int .i64 5)
  rw [hx17] at hO
  replace HO := Lib.hid (show Own w0 none0 x17 [resC c [], blkR br (.cells #[.string ⟨#[97, 46, 98]⟩, .int .i64 1, .int .i64 5, .int .i64 0, .string ⟨#[]⟩] 28)] from hO)
  clear hO
  have k1_3_18 : x17.cell? ⟨br, 3, none⟩ = some (.int .i64 0) := HO.out.cell 1 rfl 3 rfl
  have lk1_3_18 : x17.frozen? ⟨br, 3, none⟩ = false := HO.out.frz 1 rfl 3
  have k1_4_19 : x17.cell? ⟨br, 4, none⟩ = some (.string ⟨#[]⟩) := HO.out.cell 1 rfl 4 rfl
  have lk1_4_19 : x17.frozen? ⟨br, 4, none⟩ = false := HO.out.frz 1 rfl 4
  obtain ⟨x20, hx20⟩ : ∃ y, x17.setCell ⟨br, 3, none⟩ (.int .i64 9) = y := ⟨_, rfl⟩
  have hO := HO.out.setCell 1 rfl 3 (.int .i64 9)
  rw [hx20] at hO
  replace HO := Lib.hid (show Own w0 none0 x20 [resC c [], blkR br (.cells #[.string ⟨#[97, 46, 98]⟩, .int .i64 1, .int .i64 5, .int .i64 9, .string ⟨#[]⟩] 28)] from hO)
  clear hO
  have k1_4_21 : x20.cell? ⟨br, 4, none⟩ = some (.string ⟨#[]⟩) := HO.out.cell 1 rfl 4 rfl
  have lk1_4_21 : x20.frozen? ⟨br, 4, none⟩ = false := HO.out.frz 1 rfl 4
  obtain ⟨x22, hx22⟩ : ∃ y, x20.setCell ⟨br, 4, none⟩ (.string ⟨#[]⟩) = y := ⟨_, rfl⟩
  have hO := HO.out.setCell 1 rfl 4 (.string ⟨#[]⟩)
  rw [hx22] at hO
  replace HO := Lib.hid (show Own w0 none0 x22 [resC c [], blkR br (.cells #[.string ⟨#[97, 46, 98]⟩, .int .i64 1, .int .i64 5, .int .i64 9, .string ⟨#[]⟩] 28)] from hO)
  clear hO
  have z1_0 : x22.cell? ⟨br, 0, none⟩ = some (.string ⟨#[97, 46, 98]⟩) := HO.out.cell 1 rfl 0 rfl
  have z1_1 : x22.cell? ⟨br, 1, none⟩ = some (.int .i64 1) := HO.out.cell 1 rfl 1 rfl
  have z1_2 : x22.cell? ⟨br, 2, none⟩ = some (.int .i64 5) := HO.out.cell 1 rfl 2 rfl
  have z1_3 : x22.cell? ⟨br, 3, none⟩ = some (.int .i64 9) := HO.out.cell 1 rfl 3 rfl
  have z1_4 : x22.cell? ⟨br, 4, none⟩ = some (.string ⟨#[]⟩) := HO.out.cell 1 rfl 4 rfl
  have hsz : x22.heap.size = x2.heap.size := by rw [← hx22, ← hx20, ← hx17, ← hx13, ← hx8]; simp [World.setCell]
  replace HW := Lib.hid (by rw [hsz]; exact HW.out : w.heap.size ≤ x22.heap.size)
  clear hsz
  go_wp2_with fail
  refine (put_r (l' := [⟨⟨#[97, 46, 98]⟩, 1, 9, ⟨#[]⟩, 15⟩]) 10 ⟨⟨#[97, 46, 98]⟩, 1, 5, 9, ⟨#[]⟩⟩ HO.out 0 rfl (keep HO.out.below HG.out) (by decide) (by decide) (by decide) (e := 0) (by kernel_rfl) (by kernel_rfl)).mono ?_
  rintro e x23 ⟨rfl, hO, hs⟩
  replace HO := Lib.hid (show Own w0 none0 x23 [resC c [⟨⟨#[97, 46, 98]⟩, 1, 9, ⟨#[]⟩, 15⟩], blkR br (.cells #[.string ⟨#[97, 46, 98]⟩, .int .i64 1, .int .i64 5, .int .i64 9, .string ⟨#[]⟩] 28)] from hO)
  replace HW := Lib.hid (Nat.le_trans HW.out hs)
  clear hO hs
  clear hx2 hbr k1_0_3 lk1_0_3 k1_1_4 lk1_1_4 k1_2_5 lk1_2_5 k1_3_6 lk1_3_6 k1_4_7 lk1_4_7 hx8 k1_1_9 lk1_1_9 k1_2_10 lk1_2_10 k1_3_11 lk1_3_11 k1_4_12 lk1_4_12 hx13 k1_2_14 lk1_2_14 k1_3_15 lk1_3_15 k1_4_16 lk1_4_16 hx17 k1_3_18 lk1_3_18 k1_4_19 lk1_4_19 hx20 k1_4_21 lk1_4_21 hx22 z1_0 z1_1 z1_2 z1_3 z1_4
  go_wp2_with fail
  refine (look_one (r := ⟨⟨#[97, 46, 98]⟩, 1, 3, 9, ⟨#[]⟩⟩) 12 ⟨#[97, 46, 98]⟩ HO.out 0 rfl (by decide) (by kernel_rfl)).mono ?_
  rintro e x24 ⟨p1, p1c, rfl, hO, hs⟩
  replace HO := Lib.hid (show Own w0 none0 x24 [resC c [⟨⟨#[97, 46, 98]⟩, 1, 9, ⟨#[]⟩, 15⟩], blkR br (.cells #[.string ⟨#[97, 46, 98]⟩, .int .i64 1, .int .i64 5, .int .i64 9, .string ⟨#[]⟩] 28), rowR (.slice p1 1 p1c) 28 5 1 (([⟨⟨#[97, 46, 98]⟩, 1, 3, 9, ⟨#[]⟩⟩] : List Rc).flatMap cRc)] from hO)
  replace HW := Lib.hid (Nat.le_trans HW.out hs)
  clear hO hs
  go_wp2_with fail
  refine (look_none (k := false) 15 ⟨#[97, 46, 98]⟩ HO.out 0 rfl (by decide) (by kernel_rfl)).mono ?_
  rintro e x25 ⟨p2, p2c, rfl, hO, hs⟩
  replace HO := Lib.hid (show Own w0 none0 x25 [resC c [⟨⟨#[97, 46, 98]⟩, 1, 9, ⟨#[]⟩, 15⟩], blkR br (.cells #[.string ⟨#[97, 46, 98]⟩, .int .i64 1, .int .i64 5, .int .i64 9, .string ⟨#[]⟩] 28), rowR (.slice p1 1 p1c) 28 5 1 (([⟨⟨#[97, 46, 98]⟩, 1, 3, 9, ⟨#[]⟩⟩] : List Rc).flatMap cRc), rowR (.slice p2 0 p2c) 28 5 0 []] from hO)
  replace HW := Lib.hid (Nat.le_trans HW.out hs)
  clear hO hs
  go_wp2_with fail
  refine (neg_r (l' := [⟨⟨#[97, 46, 98]⟩, 0, 0, ⟨#[]⟩, 16⟩]) 11 ⟨#[97, 46, 98]⟩ 5 HO.out 0 rfl (keep HO.out.below HG.out) (by decide) (by decide) (e := 0) (by kernel_rfl) (by kernel_rfl)).mono ?_
  rintro e x26 ⟨rfl, hO, hs⟩
  replace HO := Lib.hid (show Own w0 none0 x26 [resC c [⟨⟨#[97, 46, 98]⟩, 0, 0, ⟨#[]⟩, 16⟩], blkR br (.cells #[.string ⟨#[97, 46, 98]⟩, .int .i64 1, .int .i64 5, .int .i64 9, .string ⟨#[]⟩] 28), rowR (.slice p1 1 p1c) 28 5 1 (([⟨⟨#[97, 46, 98]⟩, 1, 3, 9, ⟨#[]⟩⟩] : List Rc).flatMap cRc), rowR (.slice p2 0 p2c) 28 5 0 []] from hO)
  replace HW := Lib.hid (Nat.le_trans HW.out hs)
  clear hO hs
  go_wp2_with fail
  refine (look_none (k := true) 12 ⟨#[97, 46, 98]⟩ HO.out 0 rfl (by decide) (by kernel_rfl)).mono ?_
  rintro e x27 ⟨p3, p3c, rfl, hO, hs⟩
  replace HO := Lib.hid (show Own w0 none0 x27 [resC c [⟨⟨#[97, 46, 98]⟩, 0, 0, ⟨#[]⟩, 16⟩], blkR br (.cells #[.string ⟨#[97, 46, 98]⟩, .int .i64 1, .int .i64 5, .int .i64 9, .string ⟨#[]⟩] 28), rowR (.slice p1 1 p1c) 28 5 1 (([⟨⟨#[97, 46, 98]⟩, 1, 3, 9, ⟨#[]⟩⟩] : List Rc).flatMap cRc), rowR (.slice p2 0 p2c) 28 5 0 [], rowR (.slice p3 0 p3c) 28 5 0 []] from hO)
  replace HW := Lib.hid (Nat.le_trans HW.out hs)
  clear hO hs
  go_wp2_with fail
  refine (put_r (l' := [⟨⟨#[97, 46, 98]⟩, 0, 0, ⟨#[]⟩, 16⟩]) 10 ⟨⟨#[]⟩, 0, 0, 0, ⟨#[]⟩⟩ HO.out 0 rfl (keep HO.out.below HG.out) (by decide) (by decide) (by decide) (e := 200) (by kernel_rfl) (by kernel_rfl)).mono ?_
  rintro e x28 ⟨rfl, hO, hs⟩
  replace HO := Lib.hid (show Own w0 none0 x28 [resC c [⟨⟨#[97, 46, 98]⟩, 0, 0, ⟨#[]⟩, 16⟩], blkR br (.cells #[.string ⟨#[97, 46, 98]⟩, .int .i64 1, .int .i64 5, .int .i64 9, .string ⟨#[]⟩] 28), rowR (.slice p1 1 p1c) 28 5 1 (([⟨⟨#[97, 46, 98]⟩, 1, 3, 9, ⟨#[]⟩⟩] : List Rc).flatMap cRc), rowR (.slice p2 0 p2c) 28 5 0 [], rowR (.slice p3 0 p3c) 28 5 0 []] from hO)
  replace HW := Lib.hid (Nat.le_trans HW.out hs)
  clear hO hs
  go_wp2_with fail
  refine (neg_r (l' := [⟨⟨#[97, 46, 98]⟩, 0, 0, ⟨#[]⟩, 16⟩]) 10 ⟨#[]⟩ 5 HO.out 0 rfl (keep HO.out.below HG.out) (by decide) (by decide) (e := 200) (by kernel_rfl) (by kernel_rfl)).mono ?_
  rintro e x29 ⟨rfl, hO, hs⟩
  replace HO := Lib.hid (show Own w0 none0 x29 [resC c [⟨⟨#[97, 46, 98]⟩, 0, 0, ⟨#[]⟩, 16⟩], blkR br (.cells #[.string ⟨#[97, 46, 98]⟩, .int .i64 1, .int .i64 5, .int .i64 9, .string ⟨#[]⟩] 28), rowR (.slice p1 1 p1c) 28 5 1 (([⟨⟨#[97, 46, 98]⟩, 1, 3, 9, ⟨#[]⟩⟩] : List Rc).flatMap cRc), rowR (.slice p2 0 p2c) 28 5 0 [], rowR (.slice p3 0 p3c) 28 5 0 []] from hO)
  replace HW := Lib.hid (Nat.le_trans HW.out hs)
  clear hO hs
  go_wp2_with fail
  refine (clen_r (n := 1) HO.out 0 rfl rfl).mono ?_
  rintro e x30 ⟨rfl, hO, hs⟩
  replace HO := Lib.hid (show Own w0 none0 x30 [resC c [⟨⟨#[97, 46, 98]⟩, 0, 0, ⟨#[]⟩, 16⟩], blkR br (.cells #[.string ⟨#[97, 46, 98]⟩, .int .i64 1, .int .i64 5, .int .i64 9, .string ⟨#[]⟩] 28), rowR (.slice p1 1 p1c) 28 5 1 (([⟨⟨#[97, 46, 98]⟩, 1, 3, 9, ⟨#[]⟩⟩] : List Rc).flatMap cRc), rowR (.slice p2 0 p2c) 28 5 0 [], rowR (.slice p3 0 p3c) 28 5 0 []] from hO)
  replace HW := Lib.hid (Nat.le_trans HW.out hs)
  clear hO hs
  go_wp2_with fail
  refine (tick_r (l' := []) 16 HO.out 0 rfl (by decide) (by kernel_rfl)).mono ?_
  rintro e x31 ⟨rfl, hO, hs⟩
  replace HO := Lib.hid (show Own w0 none0 x31 [resC c [], blkR br (.cells #[.string ⟨#[97, 46, 98]⟩, .int .i64 1, .int .i64 5, .int .i64 9, .string ⟨#[]⟩] 28), rowR (.slice p1 1 p1c) 28 5 1 (([⟨⟨#[97, 46, 98]⟩, 1, 3, 9, ⟨#[]⟩⟩] : List Rc).flatMap cRc), rowR (.slice p2 0 p2c) 28 5 0 [], rowR (.slice p3 0 p3c) 28 5 0 []] from hO)
  replace HW := Lib.hid (Nat.le_trans HW.out hs)
  clear hO hs
  have z1_2 : x31.cell? ⟨br, 2, none⟩ = some (.int .i64 5) := HO.out.cell 1 rfl 2 rfl
  have y1_2 : x31.frozen? ⟨br, 2, none⟩ = false := HO.out.frz 1 rfl 2
  obtain ⟨x32, hx32⟩ : ∃ y, x31.setCell ⟨br, 2, none⟩ (.int .i64 3) = y := ⟨_, rfl⟩
  have hO := HO.out.setCell 1 rfl 2 (.int .i64 3)
  rw [hx32] at hO
  replace HO := Lib.hid (show Own w0 none0 x32 [resC c [], blkR br (.cells #[.string ⟨#[97, 46, 98]⟩, .int .i64 1, .int .i64 3, .int .i64 9, .string ⟨#[]⟩] 28), rowR (.slice p1 1 p1c) 28 5 1 (([⟨⟨#[97, 46, 98]⟩, 1, 3, 9, ⟨#[]⟩⟩] : List Rc).flatMap cRc), rowR (.slice p2 0 p2c) 28 5 0 [], rowR (.slice p3 0 p3c) 28 5 0 []] from hO)
  clear hO
  have hsz : x32.heap.size = x31.heap.size := by rw [← hx32]; simp [World.setCell]
  replace HW := Lib.hid (by rw [hsz]; exact HW.out : w.heap.size ≤ x32.heap.size)
  clear hsz
  have z1_0 : x32.cell? ⟨br, 0, none⟩ = some (.string ⟨#[97, 46, 98]⟩) := HO.out.cell 1 rfl 0 rfl
  have z1_1 : x32.cell? ⟨br, 1, none⟩ = some (.int .i64 1) := HO.out.cell 1 rfl 1 rfl
  have z1_2t : x32.cell? ⟨br, 2, none⟩ = some (.int .i64 3) := HO.out.cell 1 rfl 2 rfl
  have z1_3 : x32.cell? ⟨br, 3, none⟩ = some (.int .i64 9) := HO.out.cell 1 rfl 3 rfl
  have z1_4 : x32.cell? ⟨br, 4, none⟩ = some (.string ⟨#[]⟩) := HO.out.cell 1 rfl 4 rfl
  have rbs := run_bsRc
  obtain ⟨x33, hx33⟩ : ∃ y, x32.alloc (.cells #[.string ⟨#[97, 46, 98]⟩, .int .i64 1, .int .i64 3, .int .i64 9, .string ⟨#[]⟩] 28) = y := ⟨_, rfl⟩
  obtain ⟨bq, hbq⟩ : ∃ y, x32.heap.size = y := ⟨_, rfl⟩
  have hO := HO.out.alloc (.cells #[.string ⟨#[97, 46, 98]⟩, .int .i64 1, .int .i64 3, .int .i64 9, .string ⟨#[]⟩] 28)
  rw [hx33, hbq] at hO
  replace HO := Lib.hid (show Own w0 none0 x33 [resC c [], blkR br (.cells #[.string ⟨#[97, 46, 98]⟩, .int .i64 1, .int .i64 3, .int .i64 9, .string ⟨#[]⟩] 28), rowR (.slice p1 1 p1c) 28 5 1 (([⟨⟨#[97, 46, 98]⟩, 1, 3, 9, ⟨#[]⟩⟩] : List Rc).flatMap cRc), rowR (.slice p2 0 p2c) 28 5 0 [], rowR (.slice p3 0 p3c) 28 5 0 [], blkR bq (.cells #[.string ⟨#[97, 46, 98]⟩, .int .i64 1, .int .i64 3, .int .i64 9, .string ⟨#[]⟩] 28)] from hO)
  clear hO
  have hal : x32.heap.size ≤ x33.heap.size := by rw [← hx33]; simp
  replace HW := Lib.hid (Nat.le_trans HW.out hal)
  clear hal
  go_wp2_with fail
  have hsame := same_any (x := [⟨⟨#[97, 46, 98]⟩, 1, 3, 9, ⟨#[]⟩⟩]) (y := [⟨⟨#[97, 46, 98]⟩, 1, 3, 9, ⟨#[]⟩⟩]) (HO.out.row 2 rfl) (row_of_blk (HO.out.blk 5 rfl)) (by decide)
  rw [sameB_yes rfl] at hsame
  refine (o_still HO.out hsame).mono ?_
  rintro e x34 ⟨rfl, hO, hs⟩
  replace HO := Lib.hid (show Own w0 none0 x34 [resC c [], blkR br (.cells #[.string ⟨#[97, 46, 98]⟩, .int .i64 1, .int .i64 3, .int .i64 9, .string ⟨#[]⟩] 28), rowR (.slice p1 1 p1c) 28 5 1 (([⟨⟨#[97, 46, 98]⟩, 1, 3, 9, ⟨#[]⟩⟩] : List Rc).flatMap cRc), rowR (.slice p2 0 p2c) 28 5 0 [], rowR (.slice p3 0 p3c) 28 5 0 [], blkR bq (.cells #[.string ⟨#[97, 46, 98]⟩, .int .i64 1, .int .i64 3, .int .i64 9, .string ⟨#[]⟩] 28)] from hO)
  replace HW := Lib.hid (Nat.le_trans HW.out hs)
  clear hO hs hsame rb1 rb0 rbs
  clear z1_2 y1_2 hx32 z1_0 z1_1 z1_2t z1_3 z1_4 hx33 hbq
  go_wp2_with fail
  refine (clen_r (n := 0) HO.out 0 rfl rfl).mono ?_
  rintro e x35 ⟨rfl, hO, hs⟩
  replace HO := Lib.hid (show Own w0 none0 x35 [resC c [], blkR br (.cells #[.string ⟨#[97, 46, 98]⟩, .int .i64 1, .int .i64 3, .int .i64 9, .string ⟨#[]⟩] 28), rowR (.slice p1 1 p1c) 28 5 1 (([⟨⟨#[97, 46, 98]⟩, 1, 3, 9, ⟨#[]⟩⟩] : List Rc).flatMap cRc), rowR (.slice p2 0 p2c) 28 5 0 [], rowR (.slice p3 0 p3c) 28 5 0 [], blkR bq (.cells #[.string ⟨#[97, 46, 98]⟩, .int .i64 1, .int .i64 3, .int .i64 9, .string ⟨#[]⟩] 28)] from hO)
  replace HW := Lib.hid (Nat.le_trans HW.out hs)
  clear hO hs
  go_wp2
  go_ret
  exact ⟨rfl, HO.out.take 0, HW.out⟩

end Go.Proofs.YtapeljiopbkjlaaGreatDoor
