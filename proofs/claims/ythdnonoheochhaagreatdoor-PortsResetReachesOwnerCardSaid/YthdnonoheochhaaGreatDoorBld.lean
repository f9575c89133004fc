/- wire.Put and wire.Get. Printed by wip/tools/gen20E.py. strings.Builder, in a block of its own and at the head of a struct. Printed by wip/tools/gen20F.py. -/
import Derived.Test.YthdnonoheochhaaGreatDoorProg
import Derived.Test.YthdnonoheochhaaGreatDoorRclr
import Derived.Test.YthdnonoheochhaaGreatDoorVal
import Derived.Lib.UnsafeStr
import Derived.Laws.IdiomCopy
import Derived.Laws.BytesString
import Derived.Lib.BufferWrite
import Derived.Lib.Strings
import Derived.Test.YthdnonoheochhaaGreatDoorOwnC
import Derived.Test.YthdnonoheochhaaGreatDoorOwnP
import Derived.Lib.Builder
import Derived.Lib.AppendStr
import Derived.Laws.Externs
import Derived.Shelf.RegionOpenPlain
namespace Go.Proofs.YthdnonoheochhaaGreatDoor
open Go.RowKit Go.Sort
set_option linter.unusedVariables false
set_option maxRecDepth 100000
theorem Own.allocN {w0 w : World} {D : Nat → Prop} {L : List Res} (h : Own w0 D w L) (cs : Array Value) (t : TypeId) (n sz : Nat) (hc : cs.size = n * sz) (hm : n ≤ maxLen) : Own w0 D (w.alloc (.cells cs t)) (L ++ [rowR (.slice (some ⟨w.heap.size, 0, none⟩) n n) t sz n cs.toList]) :=
  h.push (R := rowR (.slice (some ⟨w.heap.size, 0, none⟩) n n) t sz n cs.toList) (F := fun b => b = w.heap.size)
    ⟨fun b => ⟨fun e => by rw [e]; rfl, fun e => by simpa [Value.ownBlock] using e.symm⟩, by simpa using hc, .inr ⟨w.heap.size, n, cs, rfl, Nat.zero_le _, by show (w.heap.push (.cells cs t))[w.heap.size]? = _; simp, Nat.le_refl _, hm, hc, by rw [← hc]; exact List.take_length⟩⟩ (fun b hb => by rw [hb]; exact Nat.le_refl _) (below_one w _)
def by8 (n : Int) (i : Nat) : UInt8 := (n / 256 ^ i % 256).toNat.toUInt8
def beN : Nat → Int → List UInt8
  | 0, _ => []
  | k + 1, n => by8 n k :: beN k n
theorem beN_len (k : Nat) (n : Int) : (beN k n).length = k := by induction k with
  | zero => rfl
  | succ k ih => simp [beN, ih]
theorem by8_val (n : Int) (i : Nat) : ((by8 n i).toNat : Int) = n / 256 ^ i % 256 := by
  unfold by8
  have h1 : 0 ≤ n / 256 ^ i % 256 := by omega
  have h2 : n / 256 ^ i % 256 < 256 := by omega
  generalize n / 256 ^ i % 256 = m at *
  have e : m.toNat < 256 := by omega
  simp [Nat.toUInt8, UInt8.toNat_ofNat']
  omega
def beD (l : List UInt8) : Int := l.foldl (fun a b => a * 256 + (b.toNat : Int)) 0
theorem or_add {x y : Int} (m r k : Nat) (hx : x = ((m * 2 ^ k : Nat) : Int)) (hy : y = (r : Int)) (h : r < 2 ^ k) (hb : m * 2 ^ k + r < 1099511627776) : bits .or .i64 x y = ((m * 2 ^ k + r : Nat) : Int) := by
  subst hx hy
  have e1 : ∀ n : Nat, n < 1099511627776 → (BitVec.ofInt 64 (n : Int)).toNat = n := fun n hn => by rw [BitVec.toNat_ofInt]; omega
  show IntKind.i64.wrap ((BitVec.ofInt 64 ((m * 2 ^ k : Nat) : Int) ||| BitVec.ofInt 64 (r : Int)).toNat : Nat) = _
  rw [BitVec.toNat_or, e1 _ (by omega), e1 _ (by omega), Nat.mul_comm m, ← Nat.two_pow_add_eq_or_of_lt h, Nat.mul_comm _ m, IntKind.wrap_i64]
  generalize m * 2 ^ k + r = q at *
  omega
theorem or_1 (b0 : Nat) (h0 : b0 < 256) : bits .or .i64 (bits .or .i64 (bits .or .i64 0 0) 0) (b0 : Int) = (b0 : Int) := by
  rw [or_add (x := 0) (y := 0) 0 0 8 rfl rfl (by omega) (by omega)]
  rw [or_add (x := ((0 * 2 ^ 8 + 0 : Nat) : Int)) (y := 0) 0 0 8 rfl rfl (by omega) (by omega)]
  rw [or_add (x := ((0 * 2 ^ 8 + 0 : Nat) : Int)) 0 b0 8 rfl rfl (by omega) (by omega)]
  omega
theorem or_2 (b0 b1 : Nat) (h0 : b0 < 256) (h1 : b1 < 256) : bits .or .i64 (bits .or .i64 (bits .or .i64 0 0) ((b0 : Int) * 256)) (b1 : Int) = (b0 : Int) * 256 + b1 := by
  rw [or_add (x := 0) (y := 0) 0 0 8 rfl rfl (by omega) (by omega)]
  rw [or_add (x := ((0 * 2 ^ 8 + 0 : Nat) : Int)) (y := (b0 : Int) * 256) 0 (b0 * 256) 16 (by omega) (by omega) (by omega) (by omega)]
  rw [or_add (x := ((0 * 2 ^ 16 + b0 * 256 : Nat) : Int)) b0 b1 8 (by omega) rfl (by omega) (by omega)]
  omega
theorem or_4 (b0 b1 b2 b3 : Nat) (h0 : b0 < 256) (h1 : b1 < 256) (h2 : b2 < 256) (h3 : b3 < 256) : bits .or .i64 (bits .or .i64 (bits .or .i64 ((b0 : Int) * 16777216) ((b1 : Int) * 65536)) ((b2 : Int) * 256)) (b3 : Int) = (((b0 : Int) * 256 + b1) * 256 + b2) * 256 + b3 := by
  rw [or_add (x := (b0 : Int) * 16777216) (y := (b1 : Int) * 65536) b0 (b1 * 65536) 24 (by omega) (by omega) (by omega) (by omega)]
  rw [or_add (y := (b2 : Int) * 256) (b0 * 256 + b1) (b2 * 256) 16 (by omega) (by omega) (by omega) (by omega)]
  rw [or_add ((b0 * 256 + b1) * 256 + b2) b3 8 (by omega) rfl (by omega) (by omega)]
  omega
theorem ext_list {s : ByteArray} {p k : Nat} : s.extract p (p + k) = ⟨((s.data.toList.drop p).take k).toArray⟩ := by
  apply ByteArray.ext
  rw [ByteArray.data_extract]
  apply Array.ext'
  simp [Array.toList_extract]
theorem Own.setRow {w0 w : World} {D : Nat → Prop} {L : List Res} (h : Own w0 D w L) (i : Nat) {b : Nat} {c : Array Value} {t : TypeId} (hi : L[i]? = some (blkR b (.cells c t))) (c' : Array Value) : Own w0 D (w.setRow b c') (L.set i (blkR b (.cells c' t))) := by
  obtain ⟨F, h1, h2, h3⟩ := h.step hi
  have hh := setRow_heap w b c c' t (0, 0) h1.2
  refine h3 (R' := blkR b (.cells c' t)) (F' := F) ⟨h1.1, hh⟩ (fun b hb => .inl hb) ?_
  refine ⟨rfl, rfl, rfl, by simp [World.setRow], fun k _ hk => ?_⟩
  have hkb : k ≠ b := fun e => hk (e ▸ (h1.1 b).2 rfl)
  simp [World.setRow, Array.getElem?_modify, Ne.symm hkb]
theorem u8V {n m : Int} {i : Nat} (h : n / 256 ^ i % 256 = m) : Value.int .u8 ((by8 n i).toNat : Int) = .int .u8 m := by rw [by8_val, h]
theorem push_all : ∀ (l : List UInt8) (a : ByteArray), (l.map fun b => ((b.toNat : Nat) : Int)).foldl (fun r n => r.push (UInt8.ofNat n.toNat)) a = ⟨a.data ++ l.toArray⟩
  | [], a => by apply ByteArray.ext; simp
  | b :: l, a => by
    rw [List.map_cons, List.foldl_cons, push_all l]
    apply ByteArray.ext
    simp [ByteArray.push]
theorem conv_bytes {w : World} {g n cap : Nat} {l : List UInt8} (hr : w.ownsRow 0 5 1 (.slice (some ⟨g, 0, none⟩) n cap) n (Lib.byteCells l)) : (convert 121 9 (.slice (some ⟨g, 0, none⟩) n cap)).run Tryz.prog w = .ok (.string ⟨l.toArray⟩) w := by
  have hl : l.length = n := by have := hr.1; rw [Lib.byteCells_length] at this; omega
  have h2 := run_loadCells_list (P := Tryz.prog) w ⟨g, 0, none⟩ (Lib.byteCells l) (fun j u hj => by
    rw [show (⟨g, 0, none⟩ : Addr).add j = ⟨g, j, none⟩ by unfold Addr.add; split <;> simp_all]
    exact (row_cells hr).1 j u hj)
  rw [Lib.byteCells_length, hl] at h2
  rw [run_convert_bytes_string w 121 9 5 _ _ _ Tryz.underlying121 Tryz.underlying5 Tryz.underlying9,
    run_bytesToString w ⟨g, 0, none⟩ n cap (l.map fun b => ((b.toNat : Nat) : Int)) (by rw [h2]; simp [Lib.byteCells, Function.comp_def]), push_all]
  simp
theorem sizeU8 : (Tryz.prog.info? 5).map (·.size) = some 1 := by kernel_rfl
theorem bytes_one (l : List UInt8) : ∀ v ∈ Lib.byteCells l, v.oneCell' = true := by
  intro v hv
  obtain ⟨b, _, rfl⟩ := List.mem_map.1 hv
  rfl
theorem run_mk1 (w : World) : (Instr.makeSlice 121 (.int .i64 1) (.int .i64 1)).run Tryz.prog w = .ok (.slice (some ⟨w.heap.size, 0, none⟩) 1 1) (w.alloc (.cells #[.int .u8 0] 5)) := by kernel_rfl
theorem run_mk2 (w : World) : (Instr.makeSlice 121 (.int .i64 2) (.int .i64 2)).run Tryz.prog w = .ok (.slice (some ⟨w.heap.size, 0, none⟩) 2 2) (w.alloc (.cells #[.int .u8 0, .int .u8 0] 5)) := by kernel_rfl
theorem run_mk4 (w : World) : (Instr.makeSlice 121 (.int .i64 4) (.int .i64 4)).run Tryz.prog w = .ok (.slice (some ⟨w.heap.size, 0, none⟩) 4 4) (w.alloc (.cells #[.int .u8 0, .int .u8 0, .int .u8 0, .int .u8 0] 5)) := by kernel_rfl
section
attribute [local go_sem ↓] run_mk1 run_mk2 run_mk4
set_option maxHeartbeats 2000000 in
theorem put_1 (n : Int) (w : World) (h0 : 0 ≤ n) (h1 : n < 256) : Calls Tryz.prog 71 #[.int .i64 n, .int .i64 1] w fun e w' => e = .returned (.tuple #[.string ⟨(beN 1 n).toArray⟩, .int .i64 0]) ∧ Below w.heap.size w w' := by
  have d0 : decide (n < 0) = false := by simp; omega
  have d1 : (n / 256 != 0) = false := by simp; omega
  have HO := Lib.hid (Own.nil w none0)
  obtain ⟨x1, hx1⟩ : ∃ y, w.alloc (.cells #[.int .u8 (n / 16777216), .int .u8 (n / 65536), .int .u8 (n / 256), .int .u8 n] 173) = y := ⟨_, rfl⟩
  obtain ⟨ba, hba⟩ : ∃ y, w.heap.size = y := ⟨_, rfl⟩
  have hO := HO.out.alloc (.cells #[.int .u8 (n / 16777216), .int .u8 (n / 65536), .int .u8 (n / 256), .int .u8 n] 173)
  rw [hx1, hba] at hO
  replace HO := Lib.hid (show Own w none0 x1 [blkR ba (.cells #[.int .u8 (n / 16777216), .int .u8 (n / 65536), .int .u8 (n / 256), .int .u8 n] 173)] from hO)
  clear hO
  obtain ⟨x5, hx5⟩ : ∃ y, x1.alloc (.cells #[.int .u8 0] 5) = y := ⟨_, rfl⟩
  obtain ⟨bb, hbb⟩ : ∃ y, x1.heap.size = y := ⟨_, rfl⟩
  have hO := HO.out.allocN #[.int .u8 0] 5 1 1 rfl (by decide)
  rw [hx5, hbb] at hO
  replace HO := Lib.hid (show Own w none0 x5 [blkR ba (.cells #[.int .u8 (n / 16777216), .int .u8 (n / 65536), .int .u8 (n / 256), .int .u8 n] 173), rowR (.slice (some ⟨bb, 0, none⟩) 1 1) 5 1 1 [.int .u8 0]] from hO)
  clear hO
  have hB : Lib.byteCells (beN 1 n) = [.int .u8 n] := by
    show [Value.int .u8 ((by8 n 0).toNat : Int)] = _
    rw [u8V (n := n) (i := 0) (show n / 256 ^ 0 % 256 = n by omega)]
  have hcp := run_copy_cells (P := Tryz.prog) x5 121 121 3 5 bb 0 1 1 ⟨ba, 3, none⟩ 1 1 [.int .u8 n] Tryz.underlying121 sizeU8 rfl (fun j u hj => by
    match j, hj with
    | 0, hj => cases hj; exact HO.out.cell 0 rfl 3 rfl) (fun j hj => by
    have hj : j < 1 := hj
    obtain ⟨u, hu⟩ : ∃ u, [(.int .u8 0 : Value)][j]? = some u := ⟨_, List.getElem?_eq_getElem (by simpa using hj)⟩
    rw [Nat.zero_add, (row_cells (HO.out.row 1 rfl)).1 j u hu]; rfl) (fun j _ => (row_cells (HO.out.row 1 rfl)).2 _) (by rw [← hB]; exact bytes_one _)
  obtain ⟨x6, hx6⟩ : ∃ y, x5.setCells bb 0 [.int .u8 n] = y := ⟨_, rfl⟩
  have hO := Own.rowSets 1 [.int .u8 n] 0 HO.out rfl
  rw [hx6] at hcp hO
  have hO : Own w none0 x6 [blkR ba (.cells #[.int .u8 (n / 16777216), .int .u8 (n / 65536), .int .u8 (n / 256), .int .u8 n] 173), rowR (.slice (some ⟨bb, 0, none⟩) 1 1) 5 1 1 (Lib.byteCells (beN 1 n))] := by rw [hB]; exact hO
  replace HO := Lib.hid hO
  have hcv := conv_bytes (HO.out.row 1 rfl)
  clear hO hB
  go_enter Tryz.func71, Tryz.ntmps71
  go_wp2
  go_ret2
  exact ⟨rfl, HO.out.below⟩
set_option maxHeartbeats 2000000 in
theorem put_2 (n : Int) (w : World) (h0 : 0 ≤ n) (h1 : n < 65536) : Calls Tryz.prog 71 #[.int .i64 n, .int .i64 2] w fun e w' => e = .returned (.tuple #[.string ⟨(beN 2 n).toArray⟩, .int .i64 0]) ∧ Below w.heap.size w w' := by
  have d0 : decide (n < 0) = false := by simp; omega
  have d1 : (n / 65536 != 0) = false := by simp; omega
  have HO := Lib.hid (Own.nil w none0)
  obtain ⟨x1, hx1⟩ : ∃ y, w.alloc (.cells #[.int .u8 (n / 16777216), .int .u8 (n / 65536), .int .u8 (n / 256), .int .u8 (n % 256)] 173) = y := ⟨_, rfl⟩
  obtain ⟨ba, hba⟩ : ∃ y, w.heap.size = y := ⟨_, rfl⟩
  have hO := HO.out.alloc (.cells #[.int .u8 (n / 16777216), .int .u8 (n / 65536), .int .u8 (n / 256), .int .u8 (n % 256)] 173)
  rw [hx1, hba] at hO
  replace HO := Lib.hid (show Own w none0 x1 [blkR ba (.cells #[.int .u8 (n / 16777216), .int .u8 (n / 65536), .int .u8 (n / 256), .int .u8 (n % 256)] 173)] from hO)
  clear hO
  obtain ⟨x5, hx5⟩ : ∃ y, x1.alloc (.cells #[.int .u8 0, .int .u8 0] 5) = y := ⟨_, rfl⟩
  obtain ⟨bb, hbb⟩ : ∃ y, x1.heap.size = y := ⟨_, rfl⟩
  have hO := HO.out.allocN #[.int .u8 0, .int .u8 0] 5 2 1 rfl (by decide)
  rw [hx5, hbb] at hO
  replace HO := Lib.hid (show Own w none0 x5 [blkR ba (.cells #[.int .u8 (n / 16777216), .int .u8 (n / 65536), .int .u8 (n / 256), .int .u8 (n % 256)] 173), rowR (.slice (some ⟨bb, 0, none⟩) 2 2) 5 1 2 [.int .u8 0, .int .u8 0]] from hO)
  clear hO
  have hB : Lib.byteCells (beN 2 n) = [.int .u8 (n / 256), .int .u8 (n % 256)] := by
    show [Value.int .u8 ((by8 n 1).toNat : Int), Value.int .u8 ((by8 n 0).toNat : Int)] = _
    rw [u8V (n := n) (i := 1) (show n / 256 ^ 1 % 256 = n / 256 by omega), u8V (n := n) (i := 0) (show n / 256 ^ 0 % 256 = n % 256 by omega)]
  have hcp := run_copy_cells (P := Tryz.prog) x5 121 121 3 5 bb 0 2 2 ⟨ba, 2, none⟩ 2 2 [.int .u8 (n / 256), .int .u8 (n % 256)] Tryz.underlying121 sizeU8 rfl (fun j u hj => by
    match j, hj with
    | 0, hj => cases hj; exact HO.out.cell 0 rfl 2 rfl
    | 1, hj => cases hj; exact HO.out.cell 0 rfl 3 rfl) (fun j hj => by
    have hj : j < 2 := hj
    obtain ⟨u, hu⟩ : ∃ u, [(.int .u8 0 : Value), .int .u8 0][j]? = some u := ⟨_, List.getElem?_eq_getElem (by simpa using hj)⟩
    rw [Nat.zero_add, (row_cells (HO.out.row 1 rfl)).1 j u hu]; rfl) (fun j _ => (row_cells (HO.out.row 1 rfl)).2 _) (by rw [← hB]; exact bytes_one _)
  obtain ⟨x6, hx6⟩ : ∃ y, x5.setCells bb 0 [.int .u8 (n / 256), .int .u8 (n % 256)] = y := ⟨_, rfl⟩
  have hO := Own.rowSets 1 [.int .u8 (n / 256), .int .u8 (n % 256)] 0 HO.out rfl
  rw [hx6] at hcp hO
  have hO : Own w none0 x6 [blkR ba (.cells #[.int .u8 (n / 16777216), .int .u8 (n / 65536), .int .u8 (n / 256), .int .u8 (n % 256)] 173), rowR (.slice (some ⟨bb, 0, none⟩) 2 2) 5 1 2 (Lib.byteCells (beN 2 n))] := by rw [hB]; exact hO
  replace HO := Lib.hid hO
  have hcv := conv_bytes (HO.out.row 1 rfl)
  clear hO hB
  go_enter Tryz.func71, Tryz.ntmps71
  go_wp2
  go_ret2
  exact ⟨rfl, HO.out.below⟩
set_option maxHeartbeats 2000000 in
theorem put_4 (n : Int) (w : World) (h0 : 0 ≤ n) (h1 : n < 4294967296) : Calls Tryz.prog 71 #[.int .i64 n, .int .i64 4] w fun e w' => e = .returned (.tuple #[.string ⟨(beN 4 n).toArray⟩, .int .i64 0]) ∧ Below w.heap.size w w' := by
  have d0 : decide (n < 0) = false := by simp; omega
  have d1 : (n / 4294967296 != 0) = false := by simp; omega
  have HO := Lib.hid (Own.nil w none0)
  obtain ⟨x1, hx1⟩ : ∃ y, w.alloc (.cells #[.int .u8 (n / 16777216), .int .u8 (n / 65536 % 256), .int .u8 (n / 256 % 256), .int .u8 (n % 256)] 173) = y := ⟨_, rfl⟩
  obtain ⟨ba, hba⟩ : ∃ y, w.heap.size = y := ⟨_, rfl⟩
  have hO := HO.out.alloc (.cells #[.int .u8 (n / 16777216), .int .u8 (n / 65536 % 256), .int .u8 (n / 256 % 256), .int .u8 (n % 256)] 173)
  rw [hx1, hba] at hO
  replace HO := Lib.hid (show Own w none0 x1 [blkR ba (.cells #[.int .u8 (n / 16777216), .int .u8 (n / 65536 % 256), .int .u8 (n / 256 % 256), .int .u8 (n % 256)] 173)] from hO)
  clear hO
  obtain ⟨x5, hx5⟩ : ∃ y, x1.alloc (.cells #[.int .u8 0, .int .u8 0, .int .u8 0, .int .u8 0] 5) = y := ⟨_, rfl⟩
  obtain ⟨bb, hbb⟩ : ∃ y, x1.heap.size = y := ⟨_, rfl⟩
  have hO := HO.out.allocN #[.int .u8 0, .int .u8 0, .int .u8 0, .int .u8 0] 5 4 1 rfl (by decide)
  rw [hx5, hbb] at hO
  replace HO := Lib.hid (show Own w none0 x5 [blkR ba (.cells #[.int .u8 (n / 16777216), .int .u8 (n / 65536 % 256), .int .u8 (n / 256 % 256), .int .u8 (n % 256)] 173), rowR (.slice (some ⟨bb, 0, none⟩) 4 4) 5 1 4 [.int .u8 0, .int .u8 0, .int .u8 0, .int .u8 0]] from hO)
  clear hO
  have hB : Lib.byteCells (beN 4 n) = [.int .u8 (n / 16777216), .int .u8 (n / 65536 % 256), .int .u8 (n / 256 % 256), .int .u8 (n % 256)] := by
    show [Value.int .u8 ((by8 n 3).toNat : Int), Value.int .u8 ((by8 n 2).toNat : Int), Value.int .u8 ((by8 n 1).toNat : Int), Value.int .u8 ((by8 n 0).toNat : Int)] = _
    rw [u8V (n := n) (i := 3) (show n / 256 ^ 3 % 256 = n / 16777216 by omega), u8V (n := n) (i := 2) (show n / 256 ^ 2 % 256 = n / 65536 % 256 by omega), u8V (n := n) (i := 1) (show n / 256 ^ 1 % 256 = n / 256 % 256 by omega), u8V (n := n) (i := 0) (show n / 256 ^ 0 % 256 = n % 256 by omega)]
  have hcp := run_copy_cells (P := Tryz.prog) x5 121 121 3 5 bb 0 4 4 ⟨ba, 0, none⟩ 4 4 [.int .u8 (n / 16777216), .int .u8 (n / 65536 % 256), .int .u8 (n / 256 % 256), .int .u8 (n % 256)] Tryz.underlying121 sizeU8 rfl (fun j u hj => by
    match j, hj with
    | 0, hj => cases hj; exact HO.out.cell 0 rfl 0 rfl
    | 1, hj => cases hj; exact HO.out.cell 0 rfl 1 rfl
    | 2, hj => cases hj; exact HO.out.cell 0 rfl 2 rfl
    | 3, hj => cases hj; exact HO.out.cell 0 rfl 3 rfl) (fun j hj => by
    have hj : j < 4 := hj
    obtain ⟨u, hu⟩ : ∃ u, [(.int .u8 0 : Value), .int .u8 0, .int .u8 0, .int .u8 0][j]? = some u := ⟨_, List.getElem?_eq_getElem (by simpa using hj)⟩
    rw [Nat.zero_add, (row_cells (HO.out.row 1 rfl)).1 j u hu]; rfl) (fun j _ => (row_cells (HO.out.row 1 rfl)).2 _) (by rw [← hB]; exact bytes_one _)
  obtain ⟨x6, hx6⟩ : ∃ y, x5.setCells bb 0 [.int .u8 (n / 16777216), .int .u8 (n / 65536 % 256), .int .u8 (n / 256 % 256), .int .u8 (n % 256)] = y := ⟨_, rfl⟩
  have hO := Own.rowSets 1 [.int .u8 (n / 16777216), .int .u8 (n / 65536 % 256), .int .u8 (n / 256 % 256), .int .u8 (n % 256)] 0 HO.out rfl
  rw [hx6] at hcp hO
  have hO : Own w none0 x6 [blkR ba (.cells #[.int .u8 (n / 16777216), .int .u8 (n / 65536 % 256), .int .u8 (n / 256 % 256), .int .u8 (n % 256)] 173), rowR (.slice (some ⟨bb, 0, none⟩) 4 4) 5 1 4 (Lib.byteCells (beN 4 n))] := by rw [hB]; exact hO
  replace HO := Lib.hid hO
  have hcv := conv_bytes (HO.out.row 1 rfl)
  clear hO hB
  go_enter Tryz.func71, Tryz.ntmps71
  go_wp2
  go_ret2
  exact ⟨rfl, HO.out.below⟩
set_option maxHeartbeats 4000000 in
theorem get_1 (s : ByteArray) (p : Nat) (w : World) (hp : p + 1 ≤ s.size) (hs : s.size ≤ maxLen) : Calls Tryz.prog 73 #[.string s, .int .i64 p, .int .i64 1] w fun e w' => e = .returned (.tuple #[.int .i64 (beD ((s.data.toList.drop p).take 1)), .int .i64 0]) ∧ Below w.heap.size w w' := by
  unfold maxLen at hs
  have HO := Lib.hid (Own.nil w none0)
  obtain ⟨x1, hx1⟩ : ∃ y, w.alloc (.cells #[.int .u8 0, .int .u8 0, .int .u8 0, .int .u8 0] 173) = y := ⟨_, rfl⟩
  obtain ⟨ba, hba⟩ : ∃ y, w.heap.size = y := ⟨_, rfl⟩
  have hO := HO.out.alloc (.cells #[.int .u8 0, .int .u8 0, .int .u8 0, .int .u8 0] 173)
  rw [hx1, hba] at hO
  replace HO := Lib.hid (show Own w none0 x1 [blkR ba (.cells #[.int .u8 0, .int .u8 0, .int .u8 0, .int .u8 0] 173)] from hO)
  clear hO
  have hE := ext_list (s := s) (p := p) (k := 1)
  have hlen : ((s.data.toList.drop p).take 1).length = 1 := by rw [List.length_take, List.length_drop, ← Lib.size_eq]; omega
  generalize (s.data.toList.drop p).take 1 = L at hE hlen ⊢
  obtain ⟨b0, rfl⟩ : ∃ b0, L = [b0] := by
    match L, hlen with
    | [b0], _ => exact ⟨_, rfl⟩
  have HE := Lib.hid hE
  clear hlen hE
  have hb0 := b0.toNat_lt
  have d0 : decide ((p : Int) < 0) = false := by simp
  have d1 : decide (((s.size : Int)) - 1 < (p : Int)) = false := by simp; omega
  have c1 : (0 : Int) ≤ ↑p := by omega
  have c2 : (↑p : Int) ≤ ↑p + 1 := by omega
  have c4 : (↑p + 1 : Int) ≤ ↑s.size := by omega
  go_enter Tryz.func73, Tryz.ntmps73
  go_wp2
  refine wp_region_R 9 (by kernel_rfl) (by kernel_rfl) ?_
  simp only [List.take, List.drop]
  iterate 9 (first | (refine wpR_want (by kernel_rfl) rfl rfl ?_; intro K hK; go_big_quiet_op; go_big_quiet_on) | (refine wpR_is (by kernel_rfl) rfl _ (fun w _ => rfl) ?_; simp only [Act.put, List.setIfInBounds_toArray, List.set_cons_succ, List.set_cons_zero]))
  refine wpR_nil (by kernel_rfl) (by simp) ?_
  rintro x5 hb5
  simp only [exAll, List.drop]
  have hO := HO.out.stay hb5
  replace HO := Lib.hid hO
  clear hO hb5 c1 c2 c4 d0 d1
  rw [HE.out]
  have hcp0 := Lib.run_copy_row_string (P := Tryz.prog) x5 121 9 3 5 ba 3 1 1 ⟨[b0].toArray⟩ #[.int .u8 0, .int .u8 0, .int .u8 0, .int .u8 0] 173 Tryz.underlying121 sizeU8 (HO.out.blk 0 rfl) (Nat.le_refl _) (Nat.le_refl _)
  obtain ⟨x6, hx6⟩ : ∃ y, x5.setRow ba #[.int .u8 0, .int .u8 0, .int .u8 0, .int .u8 (b0.toNat : Int)] = y := ⟨_, rfl⟩
  have hO := HO.out.setRow 0 rfl #[.int .u8 0, .int .u8 0, .int .u8 0, .int .u8 (b0.toNat : Int)]
  rw [hx6] at hO
  replace HO := Lib.hid (show Own w none0 x6 [blkR ba (.cells #[.int .u8 0, .int .u8 0, .int .u8 0, .int .u8 (b0.toNat : Int)] 173)] from hO)
  clear hO
  have hcp : (Builtin.copy_ #[121, 9] 3 #[.slice (some ⟨ba, 3, none⟩) 1 1, .string ⟨[b0].toArray⟩]).run Tryz.prog x5 = .ok (goInt 1) x6 := by rw [← hx6]; exact hcp0
  clear hx6 hcp0
  have z0_0 : x6.cell? ⟨ba, 0, none⟩ = some (.int .u8 0) := HO.out.cell 0 rfl 0 rfl
  have z0_1 : x6.cell? ⟨ba, 1, none⟩ = some (.int .u8 0) := HO.out.cell 0 rfl 1 rfl
  have z0_2 : x6.cell? ⟨ba, 2, none⟩ = some (.int .u8 0) := HO.out.cell 0 rfl 2 rfl
  have z0_3 : x6.cell? ⟨ba, 3, none⟩ = some (.int .u8 (b0.toNat : Int)) := HO.out.cell 0 rfl 3 rfl
  have HV := Lib.hid (show beD [b0] = bits .or .i64 (bits .or .i64 (bits .or .i64 0 0) 0) (b0.toNat : Int) by rw [or_1 _ (by omega)]; simp [beD])
  go_wp2
  go_ret2
  exact ⟨by rw [HV.out]; rfl, HO.out.below⟩
set_option maxHeartbeats 4000000 in
theorem get_2 (s : ByteArray) (p : Nat) (w : World) (hp : p + 2 ≤ s.size) (hs : s.size ≤ maxLen) : Calls Tryz.prog 73 #[.string s, .int .i64 p, .int .i64 2] w fun e w' => e = .returned (.tuple #[.int .i64 (beD ((s.data.toList.drop p).take 2)), .int .i64 0]) ∧ Below w.heap.size w w' := by
  unfold maxLen at hs
  have HO := Lib.hid (Own.nil w none0)
  obtain ⟨x1, hx1⟩ : ∃ y, w.alloc (.cells #[.int .u8 0, .int .u8 0, .int .u8 0, .int .u8 0] 173) = y := ⟨_, rfl⟩
  obtain ⟨ba, hba⟩ : ∃ y, w.heap.size = y := ⟨_, rfl⟩
  have hO := HO.out.alloc (.cells #[.int .u8 0, .int .u8 0, .int .u8 0, .int .u8 0] 173)
  rw [hx1, hba] at hO
  replace HO := Lib.hid (show Own w none0 x1 [blkR ba (.cells #[.int .u8 0, .int .u8 0, .int .u8 0, .int .u8 0] 173)] from hO)
  clear hO
  have hE := ext_list (s := s) (p := p) (k := 2)
  have hlen : ((s.data.toList.drop p).take 2).length = 2 := by rw [List.length_take, List.length_drop, ← Lib.size_eq]; omega
  generalize (s.data.toList.drop p).take 2 = L at hE hlen ⊢
  obtain ⟨b0, b1, rfl⟩ : ∃ b0 b1, L = [b0, b1] := by
    match L, hlen with
    | [b0, b1], _ => exact ⟨_, _, rfl⟩
  have HE := Lib.hid hE
  clear hlen hE
  have hb0 := b0.toNat_lt
  have hb1 := b1.toNat_lt
  have d0 : decide ((p : Int) < 0) = false := by simp
  have d1 : decide (((s.size : Int)) - 2 < (p : Int)) = false := by simp; omega
  have c1 : (0 : Int) ≤ ↑p := by omega
  have c2 : (↑p : Int) ≤ ↑p + 2 := by omega
  have c4 : (↑p + 2 : Int) ≤ ↑s.size := by omega
  go_enter Tryz.func73, Tryz.ntmps73
  go_wp2
  refine wp_region_R 9 (by kernel_rfl) (by kernel_rfl) ?_
  simp only [List.take, List.drop]
  iterate 9 (first | (refine wpR_want (by kernel_rfl) rfl rfl ?_; intro K hK; go_big_quiet_op; go_big_quiet_on) | (refine wpR_is (by kernel_rfl) rfl _ (fun w _ => rfl) ?_; simp only [Act.put, List.setIfInBounds_toArray, List.set_cons_succ, List.set_cons_zero]))
  refine wpR_nil (by kernel_rfl) (by simp) ?_
  rintro x5 hb5
  simp only [exAll, List.drop]
  have hO := HO.out.stay hb5
  replace HO := Lib.hid hO
  clear hO hb5 c1 c2 c4 d0 d1
  rw [HE.out]
  have hcp0 := Lib.run_copy_row_string (P := Tryz.prog) x5 121 9 3 5 ba 2 2 2 ⟨[b0, b1].toArray⟩ #[.int .u8 0, .int .u8 0, .int .u8 0, .int .u8 0] 173 Tryz.underlying121 sizeU8 (HO.out.blk 0 rfl) (Nat.le_refl _) (Nat.le_refl _)
  obtain ⟨x6, hx6⟩ : ∃ y, x5.setRow ba #[.int .u8 0, .int .u8 0, .int .u8 (b0.toNat : Int), .int .u8 (b1.toNat : Int)] = y := ⟨_, rfl⟩
  have hO := HO.out.setRow 0 rfl #[.int .u8 0, .int .u8 0, .int .u8 (b0.toNat : Int), .int .u8 (b1.toNat : Int)]
  rw [hx6] at hO
  replace HO := Lib.hid (show Own w none0 x6 [blkR ba (.cells #[.int .u8 0, .int .u8 0, .int .u8 (b0.toNat : Int), .int .u8 (b1.toNat : Int)] 173)] from hO)
  clear hO
  have hcp : (Builtin.copy_ #[121, 9] 3 #[.slice (some ⟨ba, 2, none⟩) 2 2, .string ⟨[b0, b1].toArray⟩]).run Tryz.prog x5 = .ok (goInt 2) x6 := by rw [← hx6]; exact hcp0
  clear hx6 hcp0
  have z0_0 : x6.cell? ⟨ba, 0, none⟩ = some (.int .u8 0) := HO.out.cell 0 rfl 0 rfl
  have z0_1 : x6.cell? ⟨ba, 1, none⟩ = some (.int .u8 0) := HO.out.cell 0 rfl 1 rfl
  have z0_2 : x6.cell? ⟨ba, 2, none⟩ = some (.int .u8 (b0.toNat : Int)) := HO.out.cell 0 rfl 2 rfl
  have z0_3 : x6.cell? ⟨ba, 3, none⟩ = some (.int .u8 (b1.toNat : Int)) := HO.out.cell 0 rfl 3 rfl
  have HV := Lib.hid (show beD [b0, b1] = bits .or .i64 (bits .or .i64 (bits .or .i64 0 0) ((b0.toNat : Int) * 256)) (b1.toNat : Int) by rw [or_2 _ _ (by omega) (by omega)]; simp [beD])
  go_wp2
  go_ret2
  exact ⟨by rw [HV.out]; rfl, HO.out.below⟩
set_option maxHeartbeats 4000000 in
theorem get_4 (s : ByteArray) (p : Nat) (w : World) (hp : p + 4 ≤ s.size) (hs : s.size ≤ maxLen) : Calls Tryz.prog 73 #[.string s, .int .i64 p, .int .i64 4] w fun e w' => e = .returned (.tuple #[.int .i64 (beD ((s.data.toList.drop p).take 4)), .int .i64 0]) ∧ Below w.heap.size w w' := by
  unfold maxLen at hs
  have HO := Lib.hid (Own.nil w none0)
  obtain ⟨x1, hx1⟩ : ∃ y, w.alloc (.cells #[.int .u8 0, .int .u8 0, .int .u8 0, .int .u8 0] 173) = y := ⟨_, rfl⟩
  obtain ⟨ba, hba⟩ : ∃ y, w.heap.size = y := ⟨_, rfl⟩
  have hO := HO.out.alloc (.cells #[.int .u8 0, .int .u8 0, .int .u8 0, .int .u8 0] 173)
  rw [hx1, hba] at hO
  replace HO := Lib.hid (show Own w none0 x1 [blkR ba (.cells #[.int .u8 0, .int .u8 0, .int .u8 0, .int .u8 0] 173)] from hO)
  clear hO
  have hE := ext_list (s := s) (p := p) (k := 4)
  have hlen : ((s.data.toList.drop p).take 4).length = 4 := by rw [List.length_take, List.length_drop, ← Lib.size_eq]; omega
  generalize (s.data.toList.drop p).take 4 = L at hE hlen ⊢
  obtain ⟨b0, b1, b2, b3, rfl⟩ : ∃ b0 b1 b2 b3, L = [b0, b1, b2, b3] := by
    match L, hlen with
    | [b0, b1, b2, b3], _ => exact ⟨_, _, _, _, rfl⟩
  have HE := Lib.hid hE
  clear hlen hE
  have hb0 := b0.toNat_lt
  have hb1 := b1.toNat_lt
  have hb2 := b2.toNat_lt
  have hb3 := b3.toNat_lt
  have d0 : decide ((p : Int) < 0) = false := by simp
  have d1 : decide (((s.size : Int)) - 4 < (p : Int)) = false := by simp; omega
  have c1 : (0 : Int) ≤ ↑p := by omega
  have c2 : (↑p : Int) ≤ ↑p + 4 := by omega
  have c4 : (↑p + 4 : Int) ≤ ↑s.size := by omega
  go_enter Tryz.func73, Tryz.ntmps73
  go_wp2
  refine wp_region_R 9 (by kernel_rfl) (by kernel_rfl) ?_
  simp only [List.take, List.drop]
  iterate 9 (first | (refine wpR_want (by kernel_rfl) rfl rfl ?_; intro K hK; go_big_quiet_op; go_big_quiet_on) | (refine wpR_is (by kernel_rfl) rfl _ (fun w _ => rfl) ?_; simp only [Act.put, List.setIfInBounds_toArray, List.set_cons_succ, List.set_cons_zero]))
  refine wpR_nil (by kernel_rfl) (by simp) ?_
  rintro x5 hb5
  simp only [exAll, List.drop]
  have hO := HO.out.stay hb5
  replace HO := Lib.hid hO
  clear hO hb5 c1 c2 c4 d0 d1
  rw [HE.out]
  have hcp0 := Lib.run_copy_row_string (P := Tryz.prog) x5 121 9 3 5 ba 0 4 4 ⟨[b0, b1, b2, b3].toArray⟩ #[.int .u8 0, .int .u8 0, .int .u8 0, .int .u8 0] 173 Tryz.underlying121 sizeU8 (HO.out.blk 0 rfl) (Nat.le_refl _) (Nat.le_refl _)
  obtain ⟨x6, hx6⟩ : ∃ y, x5.setRow ba #[.int .u8 (b0.toNat : Int), .int .u8 (b1.toNat : Int), .int .u8 (b2.toNat : Int), .int .u8 (b3.toNat : Int)] = y := ⟨_, rfl⟩
  have hO := HO.out.setRow 0 rfl #[.int .u8 (b0.toNat : Int), .int .u8 (b1.toNat : Int), .int .u8 (b2.toNat : Int), .int .u8 (b3.toNat : Int)]
  rw [hx6] at hO
  replace HO := Lib.hid (show Own w none0 x6 [blkR ba (.cells #[.int .u8 (b0.toNat : Int), .int .u8 (b1.toNat : Int), .int .u8 (b2.toNat : Int), .int .u8 (b3.toNat : Int)] 173)] from hO)
  clear hO
  have hcp : (Builtin.copy_ #[121, 9] 3 #[.slice (some ⟨ba, 0, none⟩) 4 4, .string ⟨[b0, b1, b2, b3].toArray⟩]).run Tryz.prog x5 = .ok (goInt 4) x6 := by rw [← hx6]; exact hcp0
  clear hx6 hcp0
  have z0_0 : x6.cell? ⟨ba, 0, none⟩ = some (.int .u8 (b0.toNat : Int)) := HO.out.cell 0 rfl 0 rfl
  have z0_1 : x6.cell? ⟨ba, 1, none⟩ = some (.int .u8 (b1.toNat : Int)) := HO.out.cell 0 rfl 1 rfl
  have z0_2 : x6.cell? ⟨ba, 2, none⟩ = some (.int .u8 (b2.toNat : Int)) := HO.out.cell 0 rfl 2 rfl
  have z0_3 : x6.cell? ⟨ba, 3, none⟩ = some (.int .u8 (b3.toNat : Int)) := HO.out.cell 0 rfl 3 rfl
  have HV := Lib.hid (show beD [b0, b1, b2, b3] = bits .or .i64 (bits .or .i64 (bits .or .i64 ((b0.toNat : Int) * 16777216) ((b1.toNat : Int) * 65536)) ((b2.toNat : Int) * 256)) (b3.toNat : Int) by rw [or_4 _ _ _ _ (by omega) (by omega) (by omega) (by omega)]; simp [beD])
  go_wp2
  go_ret2
  exact ⟨by rw [HV.out]; rfl, HO.out.below⟩
end
end Go.Proofs.YthdnonoheochhaaGreatDoor
namespace Go.Proofs.YthdnonoheochhaaGreatDoor
open Go.RowKit Go.Sort
set_option linter.unusedVariables false
set_option maxRecDepth 100000
theorem set_sm {α : Type} {L : List α} {j : Nat} {x : α} (h : L[j]? = some x) : L.set j x = L := by
  apply List.ext_getElem?
  intro k
  by_cases e : j = k
  · subst e
    rw [List.getElem?_set_self (get_len h), h]
  · rw [List.getElem?_set_ne e]
section
variable {w0 w : World} {D : Nat → Prop} {L : List Res}
theorem Own.openFC {p : Prop} {R : Res} (h : Own w0 D w (factR p R :: L)) : p ∧ Own w0 D w (R :: L) := by
  obtain ⟨h1, Gs, h2, h3⟩ := h
  obtain ⟨⟨hp, ha⟩, hd⟩ := h2 0 (factR p R) rfl
  refine ⟨hp, h1, Gs, fun i R hi => ?_, h3⟩
  cases i with
  | succ i => exact h2 (i + 1) R hi
  | zero => cases hi; exact ⟨ha, hd⟩
theorem Own.shutFC {p : Prop} {R : Res} (hp : p) (h : Own w0 D w (R :: L)) : Own w0 D w (factR p R :: L) := by
  obtain ⟨h1, Gs, h2, h3⟩ := h
  obtain ⟨ha, hd⟩ := h2 0 R rfl
  refine ⟨h1, Gs, fun i R hi => ?_, h3⟩
  cases i with
  | succ i => exact h2 (i + 1) R hi
  | zero => cases hi; exact ⟨⟨hp, ha⟩, hd⟩
def junkR : Res where
  P w F := ∀ b, F b → b < w.heap.size
  bound h := h
  move h hu _ := fun b hb => Nat.lt_of_lt_of_le (h b hb) hu.size
theorem Own.junk {i : Nat} {R : Res} (h : Own w0 D w L) (hi : L[i]? = some R) : Own w0 D w (L.set i junkR) := by
  obtain ⟨F, h1, h2, h3⟩ := h.step hi
  exact h3 (R' := junkR) (F' := F) (fun b hb => R.bound h1 b hb) (fun b hb => .inl hb) (Upd.refl F w)
end
theorem Own.one_of_two {w0 w : World} {D : Nat → Prop} {A B : Res} (h : Own w0 D w [A, B]) : Own w0 D w [junkR] := (h.junk (i := 0) rfl).take 1
theorem run_sliceData {P : Program} {o : Oper} {ρ : Operand → Value} {x : Operand} {t : TypeId} {w w' : World} {v : Value} (ho : o.op = .call { callee := .builtin .unsafeSliceData, args := #[x], argTypes := #[t] }) (h : (Builtin.unsafeSliceData_ #[t] o.type #[ρ x]).run P w = .ok v w') : (execOp ρ o).run P w = .ok (.value v) w' := by
  unfold execOp
  simp only [ho, resolve, invoke, builtin, Sem.run_bind, Sem.run_pure, Result.andThen_ok, List.map_toArray, List.map_cons, List.map_nil, h]
theorem Own.freeze {w0 w : World} {D : Nat → Prop} {L : List Res} (h : Own w0 D w L) (i : Nat) {g n cap E sz : Nat} {xs : List Value} (hi : L[i]? = some (rowR (.slice (some ⟨g, 0, none⟩) n cap) E sz n xs)) (k : Nat) : Own w0 D (w.freeze ⟨g, 0, none⟩ k) (L.set i junkR) := by
  obtain ⟨F, h1, h2, h3⟩ := h.step hi
  have hg : F g := (h1.1 g).2 rfl
  have hsz : (w.freeze ⟨g, 0, none⟩ k).heap.size = w.heap.size := by unfold World.freeze; split <;> simp
  refine h3 (R' := junkR) (F' := F) (fun b hb => by rw [hsz]; exact (rowR _ E sz n xs).bound h1 b hb) (fun b hb => .inl hb) ?_
  unfold World.freeze
  split
  · exact Upd.refl F w
  · refine ⟨rfl, rfl, rfl, by simp, fun b _ hb => ?_⟩
    have hne : g ≠ b := fun e => hb (e ▸ hg)
    simp [Array.getElem?_modify, hne]
theorem run_append_near_string {P : Program} (w : World) (t u ty e : TypeId) (i : TypeInfo) (ht : P.underlying t = some (.slice e)) (hu : P.underlying u = some .string) (hi : P.info? e = some i) (hz : i.zero = some (.int .u8 0))
    (hsize : i.size = 1) (hby : i.bytes = 1) (v : Value) (n : Nat) (xs : List Value) (hown : w.ownsRow 0 e 1 v n xs) (s : ByteArray) (h63 : n + s.size ≤ maxLen) (hbytes : n + s.size ≤ 140737488355328) :
    ∃ v' w', (Builtin.append_ #[t, u] ty #[v, .string s]).run P w = .ok v' w' ∧ w'.ownsRow 0 e 1 v' (n + s.size) (xs ++ Lib.strCells s) ∧ w.grownBy w' v.ownBlock ∧ near w v v' := by
  obtain ⟨v', w', hrun, r1, r2, _⟩ := Lib.run_append_own_string (P := P) w 0 t u ty e i ht hu hi hz hsize hby v n xs hown s h63 hbytes (Nat.zero_le _)
  refine ⟨v', w', hrun, r1, r2, ?_⟩
  rcases hown.2 with ⟨rfl, rfl⟩ | ⟨g, cap, cur, rfl, hg, hcur, hncap, hcm, hsz', htk⟩
  · obtain rfl : xs = [] := List.eq_nil_of_length_eq_zero (by simpa using hown.1)
    obtain ⟨v2, w2, hrun2, s1, s2, _⟩ := Lib.run_append_own_string (P := P) w w.heap.size t u ty e i ht hu hi hz hsize hby (.slice none 0 0) 0 [] (World.ownsRow_nil w _ e 1) s h63 hbytes (Nat.le_refl _)
    rw [hrun] at hrun2
    cases hrun2
    rcases s1.2 with ⟨e', _⟩ | ⟨g, _, _, e', hg, _⟩
    · exact .inl (by rw [e']; rfl)
    · exact .inr (.inr ⟨g, by rw [e']; rfl, hg⟩)
  · by_cases hroom : n + s.size ≤ cap
    · have hr := Lib.run_append_room_string (P := P) w t u ty e i ht hu hi hsize g n cap cur hcur s hroom (by omega)
      rw [hrun] at hr
      cases hr
      exact .inr (.inl rfl)
    · have holds : ∀ j u, xs[j]? = some u → w.cell? ((⟨g, 0, none⟩ : Addr).add j) = some u := hown.cells (g := g) rfl
      have hxl : xs.length = n := by simpa using hown.1
      unfold maxLen at h63 hcm
      have hr := Lib.run_append_grow_string (P := P) w t u ty e i (.int .u8 0) ht hu hi hz ⟨g, 0, none⟩ n cap xs (by rw [hsize]; simpa using hxl) holds s (by omega) (by omega) (by rw [hby]; exact growslice_fits (by omega) (by omega))
      rw [hrun] at hr
      cases hr
      exact .inr (.inr ⟨w.heap.size, rfl, Nat.le_refl _⟩)
theorem wp_append_run2 {P : Program} {o : Oper} {a : Act} {w w' : World} {s x : Operand} {t t2 : TypeId} {v u v' : Value} {K : Act → World → Prop} {Q : Exit → Act → World → Prop} (ho : o.op = .call { callee := .builtin .append, args := #[s, x], argTypes := #[t, t2] })
    (hs : a.eval s = v) (hx : a.eval x = u) (hrun : (Builtin.append_ #[t, t2] o.type #[v, u]).run P w = .ok v' w') (hK : K (a.put o.dst v') w') : o.wp P a w K Q := by
  unfold Oper.wp execOp
  simp only [ho, resolve, invoke, builtin, Sem.run_bind, Sem.run_pure, Result.andThen_ok, List.map_toArray, List.map_cons, List.map_nil, hs, hx, hrun]
  exact hK
theorem wpList_strO {P : Program} {ops : Array Oper} {rest : List Oper} {o : Oper} {a : Act} {w0 w : World} {D : Nat → Prop} {L : List Res} {Q : Exit → Act → World → Prop} (hgd : o.guard = none) (sl x : Operand) (t u : TypeId) (ho : o.op = .call { callee := .builtin .append, args := #[sl, x], argTypes := #[t, u] })
    {e : TypeId} (ht : P.underlying t = some (.slice e)) (hu : P.underlying u = some .string) (hi : (P.info? e).map (fun i => (i.zero, i.size, i.bytes)) = some (some (.int .u8 0), 1, 1))
    (h : Own w0 D w L) (i : Nat) {v : Value} {n : Nat} {xs : List Value} (hL : L[i]? = some (rowR v e 1 n xs)) (hs : a.eval sl = v) (s : ByteArray) (hx : a.eval x = .string s) (h63 : n + s.size ≤ 1000000)
    (hk : ∀ v' w', Own w0 D w' (L.set i (rowR v' e 1 (n + s.size) (xs ++ Lib.strCells s))) → wpList P ops Q rest (a.put o.dst v') w') : wpList P ops Q (o :: rest) a w := by
  refine wpList_plain hgd fun K hK => ?_
  obtain ⟨i0, hi, hz0, hz1, hz2⟩ := info_parts hi
  obtain ⟨v', w', hr, h2, h3, h4⟩ := run_append_near_string (P := P) w t u o.type e i0 ht hu hi hz0 hz1 hz2 v n xs (h.row i hL) s (by unfold maxLen; omega) (by omega)
  refine wp_append_run2 ho hs hx hr (hK _ _ (hk v' w' (h.rowTo i hL h2 (upd_of_grown h3) fun g hg => ?_)))
  rcases h4 with h5 | h5 | ⟨g2, h5, h6⟩
  · rw [h5] at hg; cases hg
  · exact .inl (h5 ▸ hg)
  · rw [h5] at hg; cases hg; exact .inr h6
theorem infoU8 : (Tryz.prog.info? 5).map (fun i => (i.zero, i.size, i.bytes)) = some (some (.int .u8 0), 1, 1) := by kernel_rfl
theorem infoBt : (Tryz.prog.info? 123).map (·.size) = some 2 := by kernel_rfl
theorem liesB : liesAt Tryz.prog Tryz.prog.depth 123 (2 / Tryz.prog.cellsOf 123) 0 123 1 = true := by kernel_rfl
def resB (b : Nat) (bs : List UInt8) : Res := exR fun p : Value × Value => factR (p.1 = .pointer none ∨ p.1 = .pointer (some ⟨b, 0, none⟩)) (sepR [blkR b (.cells #[p.1, p.2] 123), rowR p.2 5 1 bs.length (Lib.byteCells bs)])
theorem openB {w0 w : World} {D : Nat → Prop} {L : List Res} {b : Nat} {bs : List UInt8} (h : Own w0 D w (resB b bs :: L)) : ∃ p v, (p = .pointer none ∨ p = .pointer (some ⟨b, 0, none⟩)) ∧ Own w0 D w (blkR b (.cells #[p, v] 123) :: rowR v 5 1 bs.length (Lib.byteCells bs) :: L) := by
  obtain ⟨⟨p, v⟩, h⟩ := Own.openExC h
  obtain ⟨hp, h⟩ := Own.openFC h
  exact ⟨p, v, hp, Own.openC h⟩
theorem shutB {w0 w : World} {D : Nat → Prop} {L : List Res} {b : Nat} {bs : List UInt8} {p v : Value} (hp : p = .pointer none ∨ p = .pointer (some ⟨b, 0, none⟩)) (h : Own w0 D w (blkR b (.cells #[p, v] 123) :: rowR v 5 1 bs.length (Lib.byteCells bs) :: L)) : Own w0 D w (resB b bs :: L) :=
  Own.shutExC (f := fun p : Value × Value => factR (p.1 = .pointer none ∨ p.1 = .pointer (some ⟨b, 0, none⟩)) (sepR [blkR b (.cells #[p.1, p.2] 123), rowR p.2 5 1 bs.length (Lib.byteCells bs)])) (p, v) (Own.shutFC hp (Own.shutC (Rs := [blkR b (.cells #[p, v] 123), rowR v 5 1 bs.length (Lib.byteCells bs)]) h))
set_option maxHeartbeats 1000000 in
theorem copyCheckB {w0 w : World} {D : Nat → Prop} {L : List Res} {b : Nat} {p v : Value} (h : Own w0 D w L) (i : Nat) (hi : L[i]? = some (blkR b (.cells #[p, v] 123))) (hp : p = .pointer none ∨ p = .pointer (some ⟨b, 0, none⟩)) :
    Calls Tryz.prog 106 #[.pointer (some ⟨b, 0, none⟩)] w (OPost w0 D (L.set i (blkR b (.cells #[.pointer (some ⟨b, 0, none⟩), v] 123))) (.tuple #[]) w) := by
  obtain ⟨j, hj, hjs⟩ := Option.map_eq_some_iff.1 infoBt
  have c0 : w.cell? ⟨b, 0, none⟩ = some p := h.cell i hi 0 rfl
  have f0 : w.frozen? ⟨b, 0, none⟩ = false := h.frz i hi 0
  have hsh : w.shape? b = some (123, 2) := by simp [World.shape?, h.blk i hi]
  have hset := h.setCell i hi 0 (.pointer (some ⟨b, 0, none⟩))
  rcases hp with rfl | rfl
  · have H := Lib.hid hset
    have H0 := Lib.hid h
    clear hset h
    go_enter Tryz.func106, Tryz.ntmps106
    go_wp2
    rw [Lib.run_to_unsafe w ⟨b, 0, none⟩ Tryz.underlying120 Tryz.underlying206 hj (by rw [hjs]; decide) hsh (Nat.zero_lt_succ _)]
    simp only [Result.andThen]
    rw [Oper.upon_value]
    go_wp2
    rw [run_callFunc_extern Tryz.func147 (by kernel_rfl) (by kernel_rfl) (by kernel_rfl) (e := Extern.AbiNoEscape.same) (by kernel_rfl)]
    rw [Lib.run_noEscape]
    simp only [Result.andThen]
    rw [Oper.upon_value]
    go_wp2
    rw [Lib.run_from_unsafe w ⟨b, 0, none⟩ Tryz.underlying206 Tryz.underlying120 hj hsh liesB]
    simp only [Result.andThen]
    rw [Oper.upon_value]
    go_wp2
    go_end0
    exact ⟨rfl, H.out, by simp [World.setCell]⟩
  · have e : L.set i (blkR b (.cells #[.pointer (some ⟨b, 0, none⟩), v] 123)) = L := set_sm hi
    rw [e]
    have H0 := Lib.hid h
    clear hset h
    go_enter Tryz.func106, Tryz.ntmps106
    go_wp2
    rw [Lib.run_neq_ptr_same w _ Tryz.underlying120 hj]
    go_wp2
    go_end0
    exact ⟨rfl, H0.out, Nat.le_refl _⟩
set_option maxHeartbeats 1000000 in
theorem writeStrB {w0 w : World} {D : Nat → Prop} {L : List Res} {b : Nat} {bs : List UInt8} (s : ByteArray) (h : Own w0 D w L) (i : Nat) (hi : L[i]? = some (resB b bs)) (hl : bs.length + s.size ≤ 1000000) :
    Calls Tryz.prog 67 #[.pointer (some ⟨b, 0, none⟩), .string s] w (OPost w0 D (L.set i (resB b (bs ++ s.data.toList))) (.tuple #[.int .i64 s.size, .nilIface]) w) := by
  refine o_one h hi fun D HO0 => ?_
  clear h hi
  obtain ⟨p, v, hp, hO⟩ := openB HO0
  have HO := Lib.hid hO
  clear HO0 hO
  obtain ⟨n, hn⟩ : ∃ y, bs.length = y := ⟨_, rfl⟩
  have HN := Lib.hid hn
  rw [hn] at HO hl
  clear hn
  go_enter Tryz.func67, Tryz.ntmps67
  go_wp2_with fail
  refine (copyCheckB HO.out 0 rfl hp).mono ?_
  rintro e x1 ⟨rfl, hO, -⟩
  obtain ⟨a, cap, rfl⟩ := row_shape (hO.row 1 rfl)
  replace HO := Lib.hid (show Own w D x1 [blkR b (.cells #[.pointer (some ⟨b, 0, none⟩), .slice a n cap] 123), rowR (.slice a n cap) 5 1 n (Lib.byteCells bs)] from hO)
  clear hO hp
  have c1 : x1.cell? ⟨b, 1, none⟩ = some (.slice a n cap) := HO.out.cell 0 rfl 1 rfl
  go_wp2_with ((at_builtin; refine (show _ = True → _ from fun h => of_eq_true h) ?_))
  refine eq_true ?_
  refine wpList_strO rfl (.tmp 12) (.tmp 13) 121 9 rfl Tryz.underlying121 Tryz.underlying9 infoU8 HO.out 1 rfl rfl s rfl hl ?_
  intro v' x2 hO
  simp only [List.set_cons_succ, List.set_cons_zero] at hO
  obtain ⟨m, hm⟩ : ∃ y, n + s.size = y := ⟨_, rfl⟩
  have HM := Lib.hid hm
  rw [hm] at hO
  clear hm c1
  obtain ⟨a2, cap2, rfl⟩ := row_shape (Own.row hO 1 rfl)
  replace HO := Lib.hid hO
  clear hO
  have c1 : x2.cell? ⟨b, 1, none⟩ = some (.slice a n cap) := HO.out.cell 0 rfl 1 rfl
  have f1 : x2.frozen? ⟨b, 1, none⟩ = false := HO.out.frz 0 rfl 1
  obtain ⟨x3, hx3⟩ : ∃ y, x2.setCell ⟨b, 1, none⟩ (.slice a2 m cap2) = y := ⟨_, rfl⟩
  have hO := HO.out.setCell 0 rfl 1 (.slice a2 m cap2)
  rw [hx3] at hO
  replace HO := Lib.hid hO
  clear hO
  go_wp2
  go_ret2
  refine ⟨rfl, shutB (.inr rfl) (v := .slice a2 m cap2) ?_, HO.out.size⟩
  have e1 : (bs ++ s.data.toList).length = m := by rw [List.length_append, HN.out, ← Lib.size_eq, HM.out]
  rw [e1, Lib.byteCells_append, ← Lib.strCells_eq]
  exact HO.out
set_option maxHeartbeats 1000000 in
theorem bStringB {w0 w : World} {D : Nat → Prop} {L : List Res} {b : Nat} {bs : List UInt8} (h : Own w0 D w L) (i : Nat) (hi : L[i]? = some (resB b bs)) (hl : bs.length ≤ 1000000) (h0 : bs ≠ []) : Calls Tryz.prog 69 #[.pointer (some ⟨b, 0, none⟩)] w (OPost w0 D (L.set i junkR) (.string ⟨bs.toArray⟩) w) := by
  refine o_one h hi fun D HO0 => ?_
  clear h hi
  obtain ⟨p, v, hp, hO⟩ := openB HO0
  obtain ⟨a, cap, rfl⟩ := row_shape (hO.row 1 rfl)
  have hl0 : 0 < bs.length := List.length_pos_iff.2 h0
  obtain ⟨g, rfl⟩ := row_some (hO.row 1 rfl) hl0
  have hJ := (hO.freeze 1 rfl bs.length).take 2
  have HO := Lib.hid hO
  have hrw := hO.row 1 rfl
  have hcb : Tryz.prog.cellsOf 5 = 1 := by kernel_rfl
  have HUS := Lib.hid (show ∀ W : World, Below w.heap.size w W → (Builtin.unsafeString_ #[171, 3] 9 #[.pointer (some ⟨g, 0, none⟩), .int .i64 bs.length]).run Tryz.prog W = .ok (.string ⟨bs.toArray⟩) (W.freeze ⟨g, 0, none⟩ bs.length) from fun W hb => by
    have hrW : W.ownsRow 0 5 1 (.slice (some ⟨g, 0, none⟩) bs.length cap) bs.length (Lib.byteCells bs) := (hO.stay hb).row 1 rfl
    obtain ⟨hr1, hr2⟩ := hrW
    rcases hr2 with ⟨e, _⟩ | ⟨g', cp, cur, e, _, hh, hcp, hmx, hcs, htk⟩
    · cases e
    · cases e
      exact Lib.run_unsafeString_row W 171 3 9 5 Tryz.underlying171 hcb g cur.size (by simp [World.shape?, hh]) bs h0 (by omega) (by omega) (fun j x hx => by
        rw [show (⟨g, 0, none⟩ : Addr).add j = ⟨g, j, none⟩ by unfold Addr.add; split <;> simp_all]
        exact (row_cells ((hO.stay hb).row 1 rfl)).1 j _ (by simp [Lib.byteCells, hx])))
  have HJ := Lib.hid (show ∀ W : World, Below w.heap.size w W → Own w D (W.freeze ⟨g, 0, none⟩ bs.length) [junkR] from fun W hb => by
    have h1 := ((hO.stay hb).freeze 1 rfl bs.length).take 2
    exact Own.one_of_two h1)
  have hcap : bs.length ≤ cap := by
    obtain ⟨_, ⟨e, _⟩ | ⟨g', cp, cur, e, _, _, hcp, _⟩⟩ := hrw
    · cases e
    · cases e; exact hcp
  have hSD : ∀ W : World, (Builtin.unsafeSliceData_ #[121] 171 #[.slice (some ⟨g, 0, none⟩) bs.length cap]).run Tryz.prog W = .ok (.pointer (some ⟨g, 0, none⟩)) W := fun W => Lib.run_unsafeSliceData_row W _ _ _ _ _ (by omega)
  have g1 := cell_regrown (show w.cell? ⟨b, 1, none⟩ = some (.slice (some ⟨g, 0, none⟩) bs.length cap) from hO.cell 0 rfl 1 rfl)
  clear hO hrw HO0 hJ hp hl hl0 hcap hcb h0
  go_enter Tryz.func69, Tryz.ntmps69
  go_wp2
  refine wp_region_R 10 (by kernel_rfl) (by kernel_rfl) ?_
  simp only [List.take, List.drop]
  iterate 4 (first | (refine wpR_want (by kernel_rfl) rfl rfl ?_; intro K hK; go_big_quiet_op; go_big_quiet_on) | (refine wpR_is (by kernel_rfl) rfl _ (fun w _ => rfl) ?_; simp only [Act.put, List.setIfInBounds_toArray, List.set_cons_succ, List.set_cons_zero]))
  refine wpR_is (by kernel_rfl) rfl (.pointer (some ⟨g, 0, none⟩)) (fun W _ => run_sliceData rfl (hSD W)) ?_
  simp only [Act.put, List.setIfInBounds_toArray, List.set_cons_succ, List.set_cons_zero]
  iterate 5 (first | (refine wpR_want (by kernel_rfl) rfl rfl ?_; intro K hK; go_big_quiet_op; go_big_quiet_on) | (refine wpR_is (by kernel_rfl) rfl _ (fun w _ => rfl) ?_; simp only [Act.put, List.setIfInBounds_toArray, List.set_cons_succ, List.set_cons_zero]))
  refine wpR_nil (by kernel_rfl) (by simp) ?_
  rintro x5 hb5
  simp only [exAll, List.drop]
  have hUS := HUS.out x5 hb5
  have HJ5 := Lib.hid (HJ.out x5 hb5)
  clear hb5 g1 hSD
  go_wp2
  go_ret
  exact ⟨rfl, HJ5.out, HJ5.out.size⟩
end Go.Proofs.YthdnonoheochhaaGreatDoor
