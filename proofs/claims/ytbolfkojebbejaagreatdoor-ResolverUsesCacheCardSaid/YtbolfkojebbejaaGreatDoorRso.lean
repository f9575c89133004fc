/- slices.Sort, slices.Compact of an owned row of integers; slices.Contains of strings. -/
import Derived.Test.YtbolfkojebbejaaGreatDoorSrI
import Derived.Test.YtbolfkojebbejaaGreatDoorRnm
import Derived.Test.YtbolfkojebbejaaGreatDoorBm
import Derived.Test.YtbolfkojebbejaaGreatDoorBg
import Derived.Lib.RowBridge
set_option linter.unusedVariables false
set_option maxRecDepth 100000
set_option maxHeartbeats 32000000
namespace Go.Proofs.YtbolfkojebbejaaGreatDoor
open Go.RowKit Go.Sort Go.Lib Go.Shelf

theorem putRow_map {α : Type} [Inhabited α] (enc : α → Value) (w : World) (b o : Nat) (d : Array α) : putRow enc w b o d = putRow id w b o (d.map enc) := by
 unfold putRow
 congr 1
 funext cs
 unfold putCells
 apply Array.ext (by simp)
 intro i h1 h2
 simp only [Array.getElem_mapIdx, Array.size_map]
 split
 ·
  rename_i h
  rw [getElem!_pos d (i - o) (by omega), getElem!_pos (d.map enc) (i - o) (by simp; omega)]
  simp
 ·
  rfl
def sortZ (l : List Int) : List Int := l.mergeSort fun x y => decide (x ≤ y)
theorem sortI_o {w0 w : World} {D : Nat → Prop} {L : List Res} {v : Value} {n : Nat} {xs : List Int} (h : Own w0 D w L) (i : Nat) (hi : L[i]? = some (rowR v 3 1 n (xs.map cIn))) (hn : xs.length = n) (h0 : 0 < n) (hl : n ≤ 1000) :
  Calls Tryz.prog 150 #[v] w (OPost w0 D (L.set i (rowR v 3 1 n ((sortZ xs).map cIn))) (.tuple #[]) w) := by
 have hrow := h.row i hi
 obtain ⟨a, cap, hv⟩ := row_shape hrow
 subst hv
 obtain ⟨g, rfl⟩ := row_some hrow h0
 have hlt : g < w.heap.size := by
  obtain ⟨_, ⟨e, _⟩ | ⟨g', cp, cur, e, _, hh, _⟩⟩ := hrow
  ·
   cases e
  ·
   cases e; exact (Array.getElem?_eq_some_iff.1 hh).1
 obtain ⟨hc, hf⟩ := row_cells hrow
 have hH := holds_of_ints (w := w) (b := g) (off := 0) (n := n) (zs := xs) (by omega) (fun j hj => by
  rw [Nat.zero_add]
  exact hc j _ (by simp [List.getD_eq_getElem?_getD, hj])) (fun j hj => hf _)
 rw [← hn, List.take_length] at hH
 have hcon := Any.slices_Sort_int sortInt g 0 cap xs w hH hlt (by omega)
 rw [hn] at hcon
 refine hcon.mono ?_
 rintro e w' ⟨rfl, m, os, hw⟩
 rw [putRow_map, List.map_toArray] at hw
 have hrp := row_put hrow (ys := (sortZ xs).map cIn) (by rw [List.length_map, sortZ, List.length_mergeSort, Nat.mul_one]; exact hn) m os
 have hwe : w' = grow (putRow id (Go.Sort.ahead w m) g 0 ((sortZ xs).map cIn).toArray) os := hw
 rw [← hwe] at hrp
 exact ⟨rfl, h.rowTo i hi hrp.1 (hrp.2.mono fun b _ e => by cases e; rfl) (fun g' hg' => .inl hg'), hrp.2.size⟩
def compZ (l : List Int) : List Int := Lib.compact l
theorem grow_none (w : World) : grow w #[] = w := by
 unfold grow; simp
theorem compI_o {w0 w : World} {D : Nat → Prop} {L : List Res} {v : Value} {n m : Nat} {xs : List Int} (h : Own w0 D w L) (i : Nat) (hi : L[i]? = some (rowR v 3 1 n (xs.map cIn))) (hn : xs.length = n) (h0 : 0 < n) (hl : n ≤ 1000) (hm : (compZ xs).length = m) (hmn : m ≤ n) :
  Calls Tryz.prog 151 #[v] w fun e w' => ∃ u, e = .returned u ∧ Own w0 D w' (L.set i (rowR u 3 1 m ((compZ xs).map cIn))) ∧ w.heap.size ≤ w'.heap.size := by
 have hrow := h.row i hi
 obtain ⟨a, cap, hv⟩ := row_shape hrow
 subst hv
 obtain ⟨g, rfl⟩ := row_some hrow h0
 have hlt : g < w.heap.size := by
  obtain ⟨_, ⟨e, _⟩ | ⟨g', cp, cur, e, _, hh, _⟩⟩ := hrow
  ·
   cases e
  ·
   cases e; exact (Array.getElem?_eq_some_iff.1 hh).1
 obtain ⟨hc, hf⟩ := row_cells hrow
 have hH := holds_of_ints (w := w) (b := g) (off := 0) (n := n) (zs := xs) (by omega) (fun j hj => by
  rw [Nat.zero_add]
  exact hc j _ (by simp [List.getD_eq_getElem?_getD, hj])) (fun j hj => hf _)
 rw [← hn, List.take_length] at hH
 have hcap : n ≤ cap := row_cap hrow
 have hcon := Any.slices_Compact_int compInt g 0 cap xs w hH (by omega) (by omega)
 rw [hn] at hcon
 refine hcon.mono ?_
 rintro e w' ⟨rfl, q, hw⟩
 rw [putRow_map, List.map_toArray] at hw
 have hys : ((compZ xs ++ List.replicate (n - m) 0).map cIn).length = n * 1 := by
  rw [List.length_map, List.length_append, List.length_replicate, hm]; omega
 have hrp := row_put hrow (ys := (compZ xs ++ List.replicate (n - m) 0).map cIn) hys q #[]
 have hwe : w' = grow (putRow id (Go.Sort.ahead w q) g 0 ((compZ xs ++ List.replicate (n - m) 0).map cIn).toArray) #[] := by
  rw [grow_none, hw, ← hm]; rfl
 rw [← hwe] at hrp
 have hO := h.rowTo i hi hrp.1 (hrp.2.mono fun b _ e => by cases e; rfl) (fun g' hg' => .inl hg')
 have hil := get_len hi
 have hO2 := Own.rowCut hO i (List.getElem?_set_self hil) m hmn
 have e1 : ((compZ xs ++ List.replicate (n - m) 0).map cIn).take (m * 1) = (compZ xs).map cIn := by
  rw [Nat.mul_one, List.map_append, List.take_left' (by rw [List.length_map, hm])]
 rw [e1, List.set_set] at hO2
 refine ⟨_, rfl, ?_, hrp.2.size⟩
 rw [show (Lib.compact xs).length = m from hm]
 exact hO2
theorem indexS_any {g n cap : Nat} {f : Nat → ByteArray} {x : ByteArray} {r : Int} (w : World) (hcell : ∀ j, j < n → w.cell? ⟨g, j, none⟩ = some (.string (f j))) (hr : ixC (fun y : ByteArray => y.toList == x.toList) ((List.range n).map f) = r) (hn : n ≤ 1000) : Calls Tryz.prog 189 #[.slice (some ⟨g, 0, none⟩) n cap, .string x] w fun e w' => e = .returned (.int .i64 r) ∧ w = w' := by
 have HC := Hi hcell
 have HR := Hi hr
 clear hcell hr
 go_enter Tryz.func189, Tryz.ntmps189
 go_wp2
 go_loopw [5, 8] (fun _ iv wr => ∃ k : Nat, k ≤ n ∧ iv = .int .i64 k ∧ (((List.range n).map f).take k).any (fun y : ByteArray => y.toList == x.toList) = false ∧ w = wr) (fun _ iv _ => n - (intOf iv).toNat)
 case atStart => exact ⟨0, Nat.zero_le _, rfl, rfl, rfl⟩
 case round =>
  obtain ⟨k, hk, rfl, hnone, rfl⟩ := hrel
  have HU := Hi hnone
  clear hnone
  by_cases hlt : k < n
  ·
   have hkl : k < ((List.range n).map f).length := by simpa using hlt
   have hgk : ((List.range n).map f)[k] = f k := by simp
   have c0 := HC.out k hlt
   have HT := Hi (any_take (p := fun y : ByteArray => y.toList == x.toList) hkl HU.out)
   have HY := Hi (ixC_hit (p := fun y : ByteArray => y.toList == x.toList) hkl HU.out)
   rw [hgk] at HT HY
   generalize f k = y at *
   have hd : decide ((k : Int) < (n : Int)) = true := decide_eq_true (by omega)
   clear hgk hkl
   cases he : (y.toList == x.toList) with
   | true =>
    have HE := Hi (HY.out he)
    have hsym : (x.toList == y.toList) = true := by rw [beq_iff_eq] at he ⊢; exact he.symm
    clear HT HY HU
    go_wp2
    go_ret
    exact ⟨by rw [← HR.out, HE.out]; rfl, rfl⟩
   | false =>
    have HT2 := Hi (HT.out.trans he)
    have hsym : (x.toList == y.toList) = false := by rw [beq_eq_false_iff_ne] at he ⊢; exact he.symm
    clear HT HY HU
    go_wp2
    go_roundw
    case rel => exact ⟨k + 1, by omega, by go_num, HT2.out, trivial⟩
    case measure => simp [intOf]; omega
  ·
   obtain rfl : k = n := by omega
   have hd : decide ((k : Int) < (k : Int)) = false := decide_eq_false (by omega)
   have HE := Hi (ixC_none (p := fun y : ByteArray => y.toList == x.toList) (l := (List.range k).map f) (by have := HU.out; rwa [List.take_of_length_le (by simp)] at this))
   clear HU
   go_wp2
   go_ret
   exact ⟨by rw [← HR.out, HE.out]; rfl, rfl⟩
def hasS (x : ByteArray) (l : List ByteArray) : Bool := l.any fun y => y.toList == x.toList
theorem containsS_r {v : Value} {n : Nat} {ch : List ByteArray} {x : ByteArray} {b : Bool} (w : World) (hrow : w.ownsRow 0 9 1 v n (ch.map cSt)) (h0 : 0 < n) (hn : n ≤ 1000) (hb : hasS x ch = b) : Calls Tryz.prog 152 #[v, .string x] w fun e w' => e = .returned (.bool b) ∧ w = w' := by
 obtain ⟨a, cap, rfl⟩ := row_shape hrow
 obtain ⟨g, rfl⟩ := row_some hrow h0
 have hln : ch.length = n := by have := hrow.1; simpa using this
 have hmap : (List.range n).map (fun j => ch.getD j ⟨#[]⟩) = ch := by
  apply List.ext_getElem (by simp [hln])
  intro i h1 h2
  simp [List.getD_eq_getElem?_getD, h2]
 cases hi : ch.any (fun y => y.toList == x.toList) with
 | true =>
  obtain ⟨i, hil, h1, h2⟩ := any_first hi
  have HI := Hi (indexS_any (g := g) (cap := cap) (f := fun j => ch.getD j ⟨#[]⟩) (x := x) (r := (i : Int)) w (fun j hj => (row_cells hrow).1 j _ (by simp [List.getD_eq_getElem?_getD, show j < ch.length by omega])) (by rw [hmap]; exact ixC_hit hil h1 h2) hn)
  obtain rfl : b = true := by rw [← hb]; exact hi
  have hbi : (i : Int) ≤ 1000 := by omega
  clear hrow hmap hi h1 h2 hb
  go_enter Tryz.func152, Tryz.ntmps152
  go_wp2_with fail
  refine HI.out.mono ?_
  rintro e xp ⟨rfl, rfl⟩
  go_wp2
  go_ret
  exact ⟨by simp, rfl⟩
 | false =>
  have HI := Hi (indexS_any (g := g) (cap := cap) (f := fun j => ch.getD j ⟨#[]⟩) (x := x) (r := -1) w (fun j hj => (row_cells hrow).1 j _ (by simp [List.getD_eq_getElem?_getD, show j < ch.length by omega])) (by rw [hmap]; exact ixC_none hi) hn)
  obtain rfl : b = false := by rw [← hb]; exact hi
  clear hrow hmap hi hb
  go_enter Tryz.func152, Tryz.ntmps152
  go_wp2_with fail
  refine HI.out.mono ?_
  rintro e xp ⟨rfl, rfl⟩
  go_wp2
  go_ret
  exact ⟨rfl, rfl⟩

end Go.Proofs.YtbolfkojebbejaaGreatDoor
