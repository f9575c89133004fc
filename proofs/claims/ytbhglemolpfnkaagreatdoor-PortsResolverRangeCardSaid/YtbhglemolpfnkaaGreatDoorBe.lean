/- Rows that are owned: several cells are stored, elements are cleared, the row is cut short. -/
import Derived.Lib.SliceRun
import Derived.Test.YtbhglemolpfnkaaGreatDoorBb
import Derived.Test.YtbhglemolpfnkaaGreatDoorCdat
import Derived.ArgAppend
set_option linter.unusedVariables false
set_option maxRecDepth 100000
set_option maxHeartbeats 32000000
namespace Go.Proofs.YtbhglemolpfnkaaGreatDoor
open Go.RowKit

def setL : List Value → Nat → List Value → List Value
 | xs, _, [] => xs
 | xs, o, u :: us => setL (xs.set o u) (o + 1) us
theorem setL_take (k : Nat) : ∀ (us xs : List Value) (o : Nat), k ≤ o → (setL xs o us).take k = xs.take k
 | [], _, _, _ => rfl
 | u :: us, xs, o, h => by
  rw [setL, setL_take k us _ _ (by omega), List.take_set_of_le h]
theorem Own.rowSets {w0 : World} {D : Nat → Prop} (i : Nat) {g n cap E sz : Nat} : ∀ (us : List Value) {w : World} {L : List Res} {xs : List Value} (o : Nat), Own w0 D w L → L[i]? = some (rowR (.slice (some ⟨g, 0, none⟩) n cap) E sz n xs) →
  Own w0 D (w.setCells g o us) (L.set i (rowR (.slice (some ⟨g, 0, none⟩) n cap) E sz n (setL xs o us)))
 | [], w, L, xs, o, h, hi => by
  have e : L.set i (rowR (.slice (some ⟨g, 0, none⟩) n cap) E sz n xs) = L := by
   apply List.ext_getElem?
   intro j
   by_cases hj : j = i
   ·
    subst hj; rw [List.getElem?_set_self (get_len hi), hi]
   ·
    rw [List.getElem?_set_ne (Ne.symm hj)]
  show Own w0 D w _
  rw [setL, e]; exact h
 | u :: us, w, L, xs, o, h, hi => by
  have h1 := h.rowSet i hi o u
  have h2 := Own.rowSets i us (o + 1) h1 (by rw [List.getElem?_set_self (get_len hi)])
  rw [List.set_set] at h2
  exact h2
theorem Own.rowCut {w0 w : World} {D : Nat → Prop} {L : List Res} (h : Own w0 D w L) (i : Nat) {g n cap E sz : Nat} {xs : List Value} (hi : L[i]? = some (rowR (.slice (some ⟨g, 0, none⟩) n cap) E sz n xs)) (m : Nat) (hm : m ≤ n) :
  Own w0 D w (L.set i (rowR (.slice (some ⟨g, 0, none⟩) m cap) E sz m (xs.take (m * sz)))) := by
 obtain ⟨F, h1, h2, h3⟩ := h.step hi
 refine h3 (R' := rowR (.slice (some ⟨g, 0, none⟩) m cap) E sz m (xs.take (m * sz))) (F' := F) ⟨h1.1, ?_⟩ (fun b hb => .inl hb) (Upd.refl _ _)
 have hmul : m * sz ≤ n * sz := Nat.mul_le_mul_right sz hm
 obtain ⟨r1, ⟨e, _⟩ | ⟨g', cp, cur, e, hg0, hh, hcp, hmx, hs, htk⟩⟩ := h1.2
 ·
  cases e
 ·
  cases e
  refine ⟨by rw [List.length_take, r1]; omega, .inr ⟨g, cap, cur, rfl, hg0, hh, by omega, hmx, hs, ?_⟩⟩
  rw [← htk, List.take_take, Nat.min_eq_left hmul]
theorem zeroCells_len {zs : Array Value} {n : Nat} : (Builtin.zeroCells zs n).toList.length = n * zs.size := by
 simp [Builtin.zeroCells]
theorem zeroCells_one {zs : Array Value} {n : Nat} (h : ∀ (i : Nat) (hi : i < zs.size), zs[i].oneCell' = true) : ∀ u ∈ (Builtin.zeroCells zs n).toList, u.oneCell' = true := by
 intro u hu
 simp only [Builtin.zeroCells, Array.toList_map, List.mem_map] at hu
 obtain ⟨i, hi, rfl⟩ := hu
 have hi2 : i < n * zs.size := by simpa using hi
 have h0 : 0 < zs.size := by
  rcases Nat.eq_zero_or_pos zs.size with h | h
  ·
   rw [h] at hi2; omega
  ·
   exact h
 have hm : i % zs.size < zs.size := Nat.mod_lt _ h0
 rw [getElem!_pos zs (i % zs.size) hm]
 exact h _ hm
theorem run_clear_K {P : Program} (w : World) (t e ty : TypeId) (z : Value) (ht : P.underlying t = some (.slice e)) (hv : ∀ w, (zeroValue e).run P w = .ok z w) (h1 : ∀ n, ∀ u ∈ (Builtin.zeroCells z.cells n).toList, u.oneCell' = true) (b o n c : Nat) (hn : 0 < n)
  (hc : ∀ j, j < n * z.cells.size → (w.cell? ⟨b, o + j, none⟩).isSome = true) (hf : ∀ j, j < n * z.cells.size → w.frozen? ⟨b, o + j, none⟩ = false) :
  (Builtin.clear_ #[t] ty #[.slice (some ⟨b, o, none⟩) n c]).run P w = .ok (.tuple #[]) (w.setCells b o (Builtin.zeroCells z.cells n).toList) := by
 have hst := run_storeCells_cells (P := P) b o (Builtin.zeroCells z.cells n).toList 0 w (by rw [zeroCells_len]; simpa using hc) (by rw [zeroCells_len]; simpa using hf) (h1 n)
 simp only [Nat.add_zero] at hst
 obtain ⟨m, rfl⟩ : ∃ m, n = m + 1 := ⟨n - 1, by omega⟩
 have hu : (underlying t).run P w = .ok (.slice e) w := by simp [underlying, go_sem, ht]
 simp [Builtin.clear_, hu, hv, hst]
open Go.Sort

def ixC {α : Type} (p : α → Bool) (l : List α) : Int := match l.findIdx? p with
 | some i => i
 | none => -1
theorem ixC_hit {α : Type} {p : α → Bool} {l : List α} {k : Nat} (hk : k < l.length) (h : (l.take k).any p = false) (h2 : p l[k] = true) : ixC p l = k := by
 unfold ixC
 have : l.findIdx? p = some k := by
  rw [List.findIdx?_eq_some_iff_getElem]
  refine ⟨hk, h2, fun j hj => ?_⟩
  rw [List.any_eq_false] at h
  have := h l[j] (List.mem_take_iff_getElem.2 ⟨j, by omega, rfl⟩)
  simpa using this
 rw [this]
theorem ixC_none {α : Type} {p : α → Bool} {l : List α} (h : l.any p = false) : ixC p l = -1 := by
 unfold ixC
 have : l.findIdx? p = none := by
  rw [List.findIdx?_eq_none_iff]
  intro x hx
  rw [List.any_eq_false] at h
  simpa using h x hx
 rw [this]
structure DI (p : En → Bool) (l m : List En) (j k : Nat) : Prop where
 jk : j < k
 len : m.length = l.length
 done : m.take j = (l.take k).filter fun x => !p x
 todo : m.drop k = l.drop k
theorem filt_none {p : En → Bool} {l : List En} (h : l.any p = false) : l.filter (fun x => !p x) = l := by
 rw [List.filter_eq_self]
 intro x hx
 rw [List.any_eq_false] at h
 simpa using h x hx
theorem DI.start {p : En → Bool} {l : List En} {i : Nat} (hi : i < l.length) (h1 : (l.take i).any p = false) (h2 : p l[i] = true) : DI p l l i (i + 1) :=
 ⟨by omega, rfl, by rw [filter_step hi, filt_none h1, h2]; simp, rfl⟩
theorem DI.skip {p : En → Bool} {l m : List En} {j k : Nat} (h : DI p l m j k) (hk : k < l.length) (h2 : p l[k] = true) : DI p l m j (k + 1) :=
 ⟨by have := h.jk; omega, h.len, by rw [h.done, filter_step hk, h2]; simp, by
  have := congrArg (List.drop 1) h.todo
  simpa [List.drop_drop, Nat.add_comm] using this⟩
theorem DI.take {p : En → Bool} {l m : List En} {j k : Nat} (h : DI p l m j k) (hk : k < l.length) (h2 : p l[k] = false) : DI p l (m.set j l[k]) (j + 1) (k + 1) := by
 have hj := h.jk
 have hl := h.len
 refine ⟨by omega, by simpa using h.len, ?_, ?_⟩
 ·
  rw [List.take_succ_eq_append_getElem (by simp; omega), List.take_set_of_le (Nat.le_refl _), h.done, filter_step hk, h2]
  simp
 ·
  rw [List.drop_set_of_lt (by omega)]
  have := congrArg (List.drop 1) h.todo
  simpa [List.drop_drop, Nat.add_comm] using this
theorem DI.get {p : En → Bool} {l m : List En} {j k : Nat} (h : DI p l m j k) (hk : k < l.length) : m[k]? = some l[k] := by
 have := congrArg (fun x : List En => x[0]?) h.todo
 simpa [List.getElem?_drop, List.getElem?_eq_getElem hk] using this
theorem any_first {α : Type} {p : α → Bool} {l : List α} (h : l.any p = true) : ∃ (i : Nat) (hi : i < l.length), (l.take i).any p = false ∧ p l[i] = true := by
 cases hf : l.findIdx? p with
 | none =>
  rw [List.findIdx?_eq_none_iff] at hf
  obtain ⟨x, hx, hp⟩ := List.any_eq_true.1 h
  rw [hf x hx] at hp; cases hp
 | some i =>
  rw [List.findIdx?_eq_some_iff_getElem] at hf
  obtain ⟨hi, h1, h2⟩ := hf
  refine ⟨i, hi, ?_, h1⟩
  rw [List.any_eq_false]
  intro x hx
  obtain ⟨j, hj, rfl⟩ := List.mem_take_iff_getElem.1 hx
  simpa using h2 j (by omega)
theorem row_cap {w : World} {E sz n : Nat} {g cap : Nat} {xs : List Value} (h : w.ownsRow 0 E sz (.slice (some ⟨g, 0, none⟩) n cap) n xs) : n ≤ cap := by
 obtain ⟨h1, ⟨e, _⟩ | ⟨g', cp, cur, e, _, hh, hcp, _⟩⟩ := h
 ·
  cases e
 ·
  cases e; exact hcp
theorem run_bdC0 (w : World) : (Instr.build 159 #[]).run Tryz.prog w = .ok (.agg #[.slice none 0 0]) w := by kernel_rfl
def CNewO (w0 : World) (D : Nat → Prop) (L : List Res) (w : World) (e : Ending) (w' : World) : Prop := ∃ c, e = .returned (.pointer (some ⟨c, 0, none⟩)) ∧ Own w0 D w' (L ++ [resC c []]) ∧ w.heap.size ≤ w'.heap.size
section
variable {w0 w : World} {D : Nat → Prop} {L : List Res} {c : Nat} {l : List En}
theorem cnew_o (h : Own w0 D w L) : Calls Tryz.prog 36 #[] w (CNewO w0 D L w) := by
 have HO := Hi h
 clear h
 have rb := run_bdC0
 obtain ⟨x1, hx1⟩ : ∃ y, w.alloc (.cells #[.slice none 0 0] 159) = y := ⟨_, rfl⟩
 obtain ⟨c, hc⟩ : ∃ y, w.heap.size = y := ⟨_, rfl⟩
 have hO := (HO.out.alloc (.cells #[.slice none 0 0] 159)).rowNew 201 5
 rw [hx1, hc] at hO
 have HO2 := Hi (show Own w0 D x1 (L ++ [resC c []]) from Own.rot (L := [resC c []]) (shutC' (l := []) (v := .slice none 0 0) (Own.rot (L := L) (by simpa using hO))))
 have HS := Hi (show w.heap.size ≤ x1.heap.size by rw [← hx1]; simp)
 clear hO
 go_enter Tryz.func36, Tryz.ntmps36
 go_wp2
 go_ret
 exact ⟨c, rfl, HO2.out, HS.out⟩
end
def leastTo (l : List En) : Nat → Nat
 | 0 => 0
 | k + 1 => if (l.getD k ⟨⟨#[]⟩, 0, 0, ⟨#[]⟩, 0⟩).ex < (l.getD (leastTo l k) ⟨⟨#[]⟩, 0, 0, ⟨#[]⟩, 0⟩).ex then k else leastTo l k
def evictF (l : List En) : List En := l.eraseIdx (leastTo l l.length)
theorem leastTo_lt {l : List En} (h : 0 < l.length) : ∀ k, k ≤ l.length → leastTo l k < l.length
 | 0, _ => h
 | k + 1, hk => by
  have := leastTo_lt h k (by omega)
  simp only [leastTo]; split <;> omega
def storeF (l : List En) (e : En) : List En := (if 32 ≤ l.length then evictF l else l) ++ [e]
theorem evictF_len {l : List En} (h : 0 < l.length) : (evictF l).length = l.length - 1 := by
 unfold evictF
 rw [List.length_eraseIdx, if_pos (leastTo_lt h _ (Nat.le_refl _))]
end Go.Proofs.YtbhglemolpfnkaaGreatDoor
