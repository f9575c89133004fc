/- Rows that are owned: several cells are stored, elements are cleared, the row is cut short. -/
import Derived.Lib.SliceRun
import Derived.Test.YtbolfkojebbejaaGreatDoorBb
import Derived.Test.YtbolfkojebbejaaGreatDoorCdat
import Derived.ArgAppend
set_option linter.unusedVariables false
set_option maxRecDepth 100000
set_option maxHeartbeats 32000000
namespace Go.Proofs.YtbolfkojebbejaaGreatDoor
open Go.RowKit

variable {v : Value} {P : Program} {i : Nat}
def setL : List Value → Nat → List Value → List Value
 | xs, _, [] => xs
 | xs, o, u :: us => setL (xs.set o u) (o + 1) us
theorem setL_take (k : Nat) : ∀ (us xs : List Value) (o : Nat), k ≤ o → (setL xs o us).take k = xs.take k
 | [], _, _, _ => rfl
 | u :: us, xs, o, h => by
  rw [setL, setL_take k us _ _ (by omega), List.take_set_of_le h]
theorem Own.rowSets {w0 : World} {D : Nat → Prop} (i : Nat) {g n cap E sz : Nat} : ∀ (us : List Value) {w : World} {L : List Res} {xs : List Value} (o : Nat), Own w0 D w L → L[i]? = some (rowR (.slice (some ⟨g, 0, none⟩) n cap) E sz n xs) →
  Own w0 D (w.setCells g o us) (L.set i (rowR (.slice (some ⟨g, 0, none⟩) n cap) E sz n (setL xs o us)))
 | [], w, L, xs, o, h, hi => by
  have e : L.set i (rowR (.slice (some ⟨g, 0, none⟩) n cap) E sz n xs) = L := by
   apply List.ext_getElem?
   intro j
   by_cases hj : j = i
   ·
    subst hj; rw [List.getElem?_set_self (get_len hi), hi]
   ·
    rw [List.getElem?_set_ne (Ne.symm hj)]
  show Own w0 D w _
  rw [setL, e]; exact h
 | u :: us, w, L, xs, o, h, hi => by
  have h1 := h.rowSet i hi o u
  have h2 := Own.rowSets i us (o + 1) h1 (by rw [List.getElem?_set_self (get_len hi)])
  rw [List.set_set] at h2
  exact h2
theorem Own.rowCut {w0 w : World} {D : Nat → Prop} {L : List Res} (h : Own w0 D w L) (i : Nat) {g n cap E sz : Nat} {xs : List Value} (hi : L[i]? = some (rowR (.slice (some ⟨g, 0, none⟩) n cap) E sz n xs)) (m : Nat) (hm : m ≤ n) :
  Own w0 D w (L.set i (rowR (.slice (some ⟨g, 0, none⟩) m cap) E sz m (xs.take (m * sz)))) := by
 obtain ⟨F, h1, h2, h3⟩ := h.step hi
 refine h3 (R' := rowR (.slice (some ⟨g, 0, none⟩) m cap) E sz m (xs.take (m * sz))) (F' := F) ⟨h1.1, ?_⟩ (fun b hb => .inl hb) (Upd.refl _ _)
 have hmul : m * sz ≤ n * sz := Nat.mul_le_mul_right sz hm
 obtain ⟨r1, ⟨e, _⟩ | ⟨g', cp, cur, e, hg0, hh, hcp, hmx, hs, htk⟩⟩ := h1.2
 ·
  cases e
 ·
  cases e
  refine ⟨by rw [List.length_take, r1]; omega, .inr ⟨g, cap, cur, rfl, hg0, hh, by omega, hmx, hs, ?_⟩⟩
  rw [← htk, List.take_take, Nat.min_eq_left hmul]
theorem zeroCells_len {zs : Array Value} {n : Nat} : (Builtin.zeroCells zs n).toList.length = n * zs.size := by
 simp [Builtin.zeroCells]
theorem zeroCells_one {zs : Array Value} {n : Nat} (h : ∀ (i : Nat) (hi : i < zs.size), zs[i].oneCell' = true) : ∀ u ∈ (Builtin.zeroCells zs n).toList, u.oneCell' = true := by
 intro u hu
 simp only [Builtin.zeroCells, Array.toList_map, List.mem_map] at hu
 obtain ⟨i, hi, rfl⟩ := hu
 have hi2 : i < n * zs.size := by simpa using hi
 have h0 : 0 < zs.size := by
  rcases Nat.eq_zero_or_pos zs.size with h | h
  ·
   rw [h] at hi2; omega
  ·
   exact h
 have hm : i % zs.size < zs.size := Nat.mod_lt _ h0
 rw [getElem!_pos zs (i % zs.size) hm]
 exact h _ hm
theorem run_clear_K (w : World) (t e ty : TypeId) (z : Value) (ht : P.underlying t = some (.slice e)) (hv : ∀ w, (zeroValue e).run P w = .ok z w) (h1 : ∀ n, ∀ u ∈ (Builtin.zeroCells z.cells n).toList, u.oneCell' = true) (b o n c : Nat) (hn : 0 < n)
  (hc : ∀ j, j < n * z.cells.size → (w.cell? ⟨b, o + j, none⟩).isSome = true) (hf : ∀ j, j < n * z.cells.size → w.frozen? ⟨b, o + j, none⟩ = false) :
  (Builtin.clear_ #[t] ty #[.slice (some ⟨b, o, none⟩) n c]).run P w = .ok (.tuple #[]) (w.setCells b o (Builtin.zeroCells z.cells n).toList) := by
 have hst := run_storeCells_cells (P := P) b o (Builtin.zeroCells z.cells n).toList 0 w (by rw [zeroCells_len]; simpa using hc) (by rw [zeroCells_len]; simpa using hf) (h1 n)
 simp only [Nat.add_zero] at hst
 obtain ⟨m, rfl⟩ : ∃ m, n = m + 1 := ⟨n - 1, by omega⟩
 have hu : (underlying t).run P w = .ok (.slice e) w := by simp [underlying, go_sem, ht]
 simp [Builtin.clear_, hu, hv, hst]
open Go.Sort

def ixC {α : Type} (p : α → Bool) (l : List α) : Int := match l.findIdx? p with
 | some i => i
 | none => -1
theorem ixC_hit {α : Type} {p : α → Bool} {l : List α} {k : Nat} (hk : k < l.length) (h : (l.take k).any p = false) (h2 : p l[k] = true) : ixC p l = k := by
 unfold ixC
 have : l.findIdx? p = some k := by
  rw [List.findIdx?_eq_some_iff_getElem]
  refine ⟨hk, h2, fun j hj => ?_⟩
  rw [List.any_eq_false] at h
  have := h l[j] (List.mem_take_iff_getElem.2 ⟨j, by omega, rfl⟩)
  simpa using this
 rw [this]
theorem ixC_none {α : Type} {p : α → Bool} {l : List α} (h : l.any p = false) : ixC p l = -1 := by
 unfold ixC
 have : l.findIdx? p = none := by
  rw [List.findIdx?_eq_none_iff]
  intro x hx
  rw [List.any_eq_false] at h
  simpa using h x hx
 rw [this]
theorem indexP {w : World} (l : List En) (p : En → Bool) (b1 b2 : Nat) (hp : ∀ w', Below w.heap.size w w' → ∀ x : En, Calls Tryz.prog 173 #[enV x, .pointer (some ⟨b1, 0, none⟩), .pointer (some ⟨b2, 0, none⟩)] w' fun e w'' => e = .returned (.bool (p x)) ∧ Below w'.heap.size w' w'') (hr : w.ownsRow 0 215 5 v l.length (l.flatMap cEn)) (hl : l.length ≤ 1000) :
  Calls Tryz.prog 195 #[v, .func (.func 173) #[] #[.pointer (some ⟨b1, 0, none⟩), .pointer (some ⟨b2, 0, none⟩)]] w fun e w' => e = .returned (.int .i64 (ixC p l)) ∧ Below w.heap.size w w' := by
 obtain ⟨a, cap, rfl, hcell⟩ := row_at (c := cEn) (fun x => rfl) hr rfl
 have HC := Hi hcell
 clear hcell hr
 have HM := Hi hp
 clear hp
 go_enter Tryz.func195, Tryz.ntmps195
 go_wp2
 go_loopw [5, 8] (fun _ i wr => ∃ k : Nat, k ≤ l.length ∧ i = .int .i64 k ∧ (l.take k).any p = false ∧ Below w.heap.size w wr) (fun _ i _ => l.length - (intOf i).toNat)
 case atStart => exact ⟨0, Nat.zero_le _, rfl, rfl, Below.refl _ _⟩
 case round =>
  obtain ⟨k, hk, rfl, hnone, hbw⟩ := hrel
  have HN := Hi hnone
  have HB := Hi hbw
  clear hnone hbw
  by_cases hlt : k < l.length
  ·
   obtain ⟨g, rfl, hcc⟩ := HC.out (by omega)
   have hkl : k < l.length := hlt
   have hcc := hcc k hkl
   have HT := Hi (any_take (p := p) hkl HN.out)
   have HY := Hi (ixC_hit (p := p) hkl HN.out)
   have yc : ∀ j u, j < 5 → (cEn l[k])[j]? = some u → wr.cell? ⟨g, k * 5 + j, none⟩ = some u := fun j u hj hu => keep HB.out ((hcc j hj).trans hu)
   generalize l[k] = r at *
   obtain ⟨nm, kd, ad, to, ex⟩ := r
   have y0 : wr.cell? ⟨g, k * 5, none⟩ = some (.string nm) := yc 0 _ (by decide) rfl
   have y1 : wr.cell? ⟨g, k * 5 + 1, none⟩ = some (.int .i64 kd) := yc 1 _ (by decide) rfl
   have y2 : wr.cell? ⟨g, k * 5 + 2, none⟩ = some (.int .i64 ad) := yc 2 _ (by decide) rfl
   have y3 : wr.cell? ⟨g, k * 5 + 3, none⟩ = some (.string to) := yc 3 _ (by decide) rfl
   have y4 : wr.cell? ⟨g, k * 5 + 4, none⟩ = some (.int .i64 ex) := yc 4 _ (by decide) rfl
   clear hcc yc hkl
   go_wp2_with fail
   refine (HM.out _ HB.out ⟨nm, kd, ad, to, ex⟩).mono ?_
   rintro e w1 ⟨rfl, hb⟩
   replace HB := Hi (below_mid HB.out hb)
   clear hb y0 y1 y2 y3 y4
   cases he : p ⟨nm, kd, ad, to, ex⟩ with
   | true =>
    have HR := Hi (HY.out he)
    clear HT HY HN he
    go_wp2
    go_ret
    exact ⟨by rw [HR.out]; rfl, HB.out⟩
   | false =>
    rw [he] at HT
    clear he
    go_wp2
    go_roundw
    case rel => exact ⟨k + 1, by omega, by go_num, HT.out, HB.out⟩
    case measure => simp [intOf]; omega
  ·
   obtain rfl : k = l.length := by omega
   have HR := Hi (ixC_none (p := p) (l := l) (by rw [← HN.out, List.take_length]))
   clear HN
   go_wp2
   go_ret
   exact ⟨by rw [HR.out]; rfl, HB.out⟩
theorem indexN {w : World} (l : List En) (p : En → Bool) (b1 : Nat) (hp : ∀ w', Below w.heap.size w w' → ∀ x : En, Calls Tryz.prog 169 #[enV x, .pointer (some ⟨b1, 0, none⟩)] w' fun e w'' => e = .returned (.bool (p x)) ∧ Below w'.heap.size w' w'') (hr : w.ownsRow 0 215 5 v l.length (l.flatMap cEn)) (hl : l.length ≤ 1000) :
  Calls Tryz.prog 195 #[v, .func (.func 169) #[] #[.pointer (some ⟨b1, 0, none⟩)]] w fun e w' => e = .returned (.int .i64 (ixC p l)) ∧ Below w.heap.size w w' := by
 obtain ⟨a, cap, rfl, hcell⟩ := row_at (c := cEn) (fun x => rfl) hr rfl
 have HC := Hi hcell
 clear hcell hr
 have HM := Hi hp
 clear hp
 go_enter Tryz.func195, Tryz.ntmps195
 go_wp2
 go_loopw [5, 8] (fun _ i wr => ∃ k : Nat, k ≤ l.length ∧ i = .int .i64 k ∧ (l.take k).any p = false ∧ Below w.heap.size w wr) (fun _ i _ => l.length - (intOf i).toNat)
 case atStart => exact ⟨0, Nat.zero_le _, rfl, rfl, Below.refl _ _⟩
 case round =>
  obtain ⟨k, hk, rfl, hnone, hbw⟩ := hrel
  have HN := Hi hnone
  have HB := Hi hbw
  clear hnone hbw
  by_cases hlt : k < l.length
  ·
   obtain ⟨g, rfl, hcc⟩ := HC.out (by omega)
   have hkl : k < l.length := hlt
   have hcc := hcc k hkl
   have HT := Hi (any_take (p := p) hkl HN.out)
   have HY := Hi (ixC_hit (p := p) hkl HN.out)
   have yc : ∀ j u, j < 5 → (cEn l[k])[j]? = some u → wr.cell? ⟨g, k * 5 + j, none⟩ = some u := fun j u hj hu => keep HB.out ((hcc j hj).trans hu)
   generalize l[k] = r at *
   obtain ⟨nm, kd, ad, to, ex⟩ := r
   have y0 : wr.cell? ⟨g, k * 5, none⟩ = some (.string nm) := yc 0 _ (by decide) rfl
   have y1 : wr.cell? ⟨g, k * 5 + 1, none⟩ = some (.int .i64 kd) := yc 1 _ (by decide) rfl
   have y2 : wr.cell? ⟨g, k * 5 + 2, none⟩ = some (.int .i64 ad) := yc 2 _ (by decide) rfl
   have y3 : wr.cell? ⟨g, k * 5 + 3, none⟩ = some (.string to) := yc 3 _ (by decide) rfl
   have y4 : wr.cell? ⟨g, k * 5 + 4, none⟩ = some (.int .i64 ex) := yc 4 _ (by decide) rfl
   clear hcc yc hkl
   go_wp2_with fail
   refine (HM.out _ HB.out ⟨nm, kd, ad, to, ex⟩).mono ?_
   rintro e w1 ⟨rfl, hb⟩
   replace HB := Hi (below_mid HB.out hb)
   clear hb y0 y1 y2 y3 y4
   cases he : p ⟨nm, kd, ad, to, ex⟩ with
   | true =>
    have HR := Hi (HY.out he)
    clear HT HY HN he
    go_wp2
    go_ret
    exact ⟨by rw [HR.out]; rfl, HB.out⟩
   | false =>
    rw [he] at HT
    clear he
    go_wp2
    go_roundw
    case rel => exact ⟨k + 1, by omega, by go_num, HT.out, HB.out⟩
    case measure => simp [intOf]; omega
  ·
   obtain rfl : k = l.length := by omega
   have HR := Hi (ixC_none (p := p) (l := l) (by rw [← HN.out, List.take_length]))
   clear HN
   go_wp2
   go_ret
   exact ⟨by rw [HR.out]; rfl, HB.out⟩
theorem indexT {w : World} (l : List En) (p : En → Bool) (b1 : Nat) (hp : ∀ w', Below w.heap.size w w' → ∀ x : En, Calls Tryz.prog 114 #[enV x, .pointer (some ⟨b1, 0, none⟩)] w' fun e w'' => e = .returned (.bool (p x)) ∧ Below w'.heap.size w' w'') (hr : w.ownsRow 0 215 5 v l.length (l.flatMap cEn)) (hl : l.length ≤ 1000) :
  Calls Tryz.prog 195 #[v, .func (.func 114) #[] #[.pointer (some ⟨b1, 0, none⟩)]] w fun e w' => e = .returned (.int .i64 (ixC p l)) ∧ Below w.heap.size w w' := by
 obtain ⟨a, cap, rfl, hcell⟩ := row_at (c := cEn) (fun x => rfl) hr rfl
 have HC := Hi hcell
 clear hcell hr
 have HM := Hi hp
 clear hp
 go_enter Tryz.func195, Tryz.ntmps195
 go_wp2
 go_loopw [5, 8] (fun _ i wr => ∃ k : Nat, k ≤ l.length ∧ i = .int .i64 k ∧ (l.take k).any p = false ∧ Below w.heap.size w wr) (fun _ i _ => l.length - (intOf i).toNat)
 case atStart => exact ⟨0, Nat.zero_le _, rfl, rfl, Below.refl _ _⟩
 case round =>
  obtain ⟨k, hk, rfl, hnone, hbw⟩ := hrel
  have HN := Hi hnone
  have HB := Hi hbw
  clear hnone hbw
  by_cases hlt : k < l.length
  ·
   obtain ⟨g, rfl, hcc⟩ := HC.out (by omega)
   have hkl : k < l.length := hlt
   have hcc := hcc k hkl
   have HT := Hi (any_take (p := p) hkl HN.out)
   have HY := Hi (ixC_hit (p := p) hkl HN.out)
   have yc : ∀ j u, j < 5 → (cEn l[k])[j]? = some u → wr.cell? ⟨g, k * 5 + j, none⟩ = some u := fun j u hj hu => keep HB.out ((hcc j hj).trans hu)
   generalize l[k] = r at *
   obtain ⟨nm, kd, ad, to, ex⟩ := r
   have y0 : wr.cell? ⟨g, k * 5, none⟩ = some (.string nm) := yc 0 _ (by decide) rfl
   have y1 : wr.cell? ⟨g, k * 5 + 1, none⟩ = some (.int .i64 kd) := yc 1 _ (by decide) rfl
   have y2 : wr.cell? ⟨g, k * 5 + 2, none⟩ = some (.int .i64 ad) := yc 2 _ (by decide) rfl
   have y3 : wr.cell? ⟨g, k * 5 + 3, none⟩ = some (.string to) := yc 3 _ (by decide) rfl
   have y4 : wr.cell? ⟨g, k * 5 + 4, none⟩ = some (.int .i64 ex) := yc 4 _ (by decide) rfl
   clear hcc yc hkl
   go_wp2_with fail
   refine (HM.out _ HB.out ⟨nm, kd, ad, to, ex⟩).mono ?_
   rintro e w1 ⟨rfl, hb⟩
   replace HB := Hi (below_mid HB.out hb)
   clear hb y0 y1 y2 y3 y4
   cases he : p ⟨nm, kd, ad, to, ex⟩ with
   | true =>
    have HR := Hi (HY.out he)
    clear HT HY HN he
    go_wp2
    go_ret
    exact ⟨by rw [HR.out]; rfl, HB.out⟩
   | false =>
    rw [he] at HT
    clear he
    go_wp2
    go_roundw
    case rel => exact ⟨k + 1, by omega, by go_num, HT.out, HB.out⟩
    case measure => simp [intOf]; omega
  ·
   obtain rfl : k = l.length := by omega
   have HR := Hi (ixC_none (p := p) (l := l) (by rw [← HN.out, List.take_length]))
   clear HN
   go_wp2
   go_ret
   exact ⟨by rw [HR.out]; rfl, HB.out⟩
def DelO (F : Nat → Prop) (l' : List En) (w : World) (e : Ending) (w' : World) : Prop := ∃ v', e = .returned v' ∧ Own w F w' [rowE v' l'] ∧ w.heap.size ≤ w'.heap.size
theorem flat_set5 : ∀ (l : List En) (j : Nat) (x : En), j < l.length → (((((l.flatMap cEn).set (j * 5) (.string x.nm)).set (j * 5 + 1) (.int .i64 x.kd)).set (j * 5 + 2) (.int .i64 x.ad)).set (j * 5 + 3) (.string x.to)).set (j * 5 + 4) (.int .i64 x.ex) = (l.set j x).flatMap cEn
 | [], j, x, h => by simp at h
 | y :: l, 0, x, h => by simp [cEn]
 | y :: l, j + 1, x, h => by
  have ih := flat_set5 l j x (by simpa using h)
  have e0 : (j + 1) * 5 = 5 + j * 5 := by omega
  have hs : ∀ (us : List Value) (i : Nat) (u : Value), (cEn y ++ us).set (5 + i) u = cEn y ++ us.set i u := fun us i u => by
   rw [List.set_append_right _ _ (by simp [cEn])]
   have : 5 + i - (cEn y).length = i := by show 5 + i - 5 = i; omega
   rw [this]
  simp only [List.flatMap_cons, l_S, e0, Nat.add_assoc, hs, ih]
structure DI (p : En → Bool) (l m : List En) (j k : Nat) : Prop where
 jk : j < k
 len : m.length = l.length
 done : m.take j = (l.take k).filter fun x => !p x
 todo : m.drop k = l.drop k
theorem filt_none {p : En → Bool} {l : List En} (h : l.any p = false) : l.filter (fun x => !p x) = l := by
 rw [List.filter_eq_self]
 intro x hx
 rw [List.any_eq_false] at h
 simpa using h x hx
theorem DI.start {p : En → Bool} {l : List En} (hi : i < l.length) (h1 : (l.take i).any p = false) (h2 : p l[i] = true) : DI p l l i (i + 1) :=
 ⟨by omega, rfl, by rw [filter_step hi, filt_none h1, h2]; simp, rfl⟩
theorem DI.skip {p : En → Bool} {l m : List En} {j k : Nat} (h : DI p l m j k) (hk : k < l.length) (h2 : p l[k] = true) : DI p l m j (k + 1) :=
 ⟨by have := h.jk; omega, h.len, by rw [h.done, filter_step hk, h2]; simp, by
  have := congrArg (List.drop 1) h.todo
  simpa [List.drop_drop, Nat.add_comm] using this⟩
theorem DI.take {p : En → Bool} {l m : List En} {j k : Nat} (h : DI p l m j k) (hk : k < l.length) (h2 : p l[k] = false) : DI p l (m.set j l[k]) (j + 1) (k + 1) := by
 have hj := h.jk
 have hl := h.len
 refine ⟨by omega, by simpa using h.len, ?_, ?_⟩
 ·
  rw [List.take_succ_eq_append_getElem (by simp; omega), List.take_set_of_le (Nat.le_refl _), h.done, filter_step hk, h2]
  simp
 ·
  rw [List.drop_set_of_lt (by omega)]
  have := congrArg (List.drop 1) h.todo
  simpa [List.drop_drop, Nat.add_comm] using this
theorem DI.get {p : En → Bool} {l m : List En} {j k : Nat} (h : DI p l m j k) (hk : k < l.length) : m[k]? = some l[k] := by
 have := congrArg (fun x : List En => x[0]?) h.todo
 simpa [List.getElem?_drop, List.getElem?_eq_getElem hk] using this
theorem any_first {α : Type} {p : α → Bool} {l : List α} (h : l.any p = true) : ∃ (i : Nat) (hi : i < l.length), (l.take i).any p = false ∧ p l[i] = true := by
 cases hf : l.findIdx? p with
 | none =>
  rw [List.findIdx?_eq_none_iff] at hf
  obtain ⟨x, hx, hp⟩ := List.any_eq_true.1 h
  rw [hf x hx] at hp; cases hp
 | some i =>
  rw [List.findIdx?_eq_some_iff_getElem] at hf
  obtain ⟨hi, h1, h2⟩ := hf
  refine ⟨i, hi, ?_, h1⟩
  rw [List.any_eq_false]
  intro x hx
  obtain ⟨j, hj, rfl⟩ := List.mem_take_iff_getElem.1 hx
  simpa using h2 j (by omega)
theorem flat_take {κ : Type} (kc : κ → List Value) (sz : Nat) (h : ∀ k, (kc k).length = sz) : ∀ (l : List κ) (j : Nat), (l.take j).flatMap kc = (l.flatMap kc).take (j * sz)
 | [], j => by simp
 | x :: l, 0 => by simp
 | x :: l, j + 1 => by
  simp only [List.take_succ_cons, List.flatMap_cons]
  have e : List.take (sz + j * sz) (kc x) = kc x := List.take_of_length_le (by rw [h x]; omega)
  rw [flat_take kc sz h l j, Nat.add_mul, Nat.one_mul, Nat.add_comm, List.take_append, e, h x, Nat.add_sub_cancel_left]
theorem row_cap {w : World} {E sz n : Nat} {g cap : Nat} {xs : List Value} (h : w.ownsRow 0 E sz (.slice (some ⟨g, 0, none⟩) n cap) n xs) : n ≤ cap := by
 obtain ⟨h1, ⟨e, _⟩ | ⟨g', cp, cur, e, _, hh, hcp, _⟩⟩ := h
 ·
  cases e
 ·
  cases e; exact hcp
theorem del_end {w0 w : World} {F : Nat → Prop} {g k cap j : Nat} {m l' : List En} (h : Own w0 F w [rowE (.slice (some ⟨g, 0, none⟩) k cap) m]) (hm : m.length = k) (hj : j ≤ k) (ht : m.take j = l') (zs : List Value) : Own w0 F (w.setCells g (j * 5) zs) [rowE (.slice (some ⟨g, 0, none⟩) j cap) l'] := by
 have h1 : Own w0 F w [rowR (.slice (some ⟨g, 0, none⟩) k cap) 215 5 k (m.flatMap cEn)] := by rw [← hm]; rw [← hm] at h; exact h
 have h2 := (Own.rowSets 0 zs (j * 5) h1 rfl)
 have h3 := Own.rowCut (n := k) h2 0 rfl j hj
 rw [setL_take _ _ _ _ (Nat.le_refl _), ← flat_take cEn 5 (fun _ => rfl), ht] at h3
 have hl : l'.length = j := by rw [← ht, List.length_take]; omega
 show Own w0 F _ [rowR _ _ _ _ _]
 rw [hl]
 exact h3
theorem zeroEn (w : World) : (zeroValue 215).run Tryz.prog w = .ok (.agg #[.string ⟨#[]⟩, .int .i64 0, .int .i64 0, .string ⟨#[]⟩, .int .i64 0]) w := by kernel_rfl
theorem delP {w : World} {F : Nat → Prop} (l : List En) (p : En → Bool) (b1 b2 : Nat) (h : Own w F w [rowE v l]) (hp : ∀ w', Upd F w w' → ∀ x : En, Calls Tryz.prog 173 #[enV x, .pointer (some ⟨b1, 0, none⟩), .pointer (some ⟨b2, 0, none⟩)] w' fun e w'' => e = .returned (.bool (p x)) ∧ Below w'.heap.size w' w'') (hl : l.length ≤ 1000) :
  Calls Tryz.prog 156 #[v, .func (.func 173) #[] #[.pointer (some ⟨b1, 0, none⟩), .pointer (some ⟨b2, 0, none⟩)]] w (DelO F (l.filter fun x => !p x) w) := by
 have HO := Hi h
 have HP := Hi hp
 have HL := Hi hl
 have hix := indexP l p b1 b2 (fun w' hb x => hp w' (Upd.of_below hb) x) (h.row 0 rfl) hl
 have HS := Hi (row_shape (h.row 0 rfl))
 clear h hp hl
 obtain ⟨n, hn⟩ : ∃ n, l.length = n := ⟨_, rfl⟩
 have HN := Hi hn
 have hn1 : n ≤ 1000 := by rw [← hn]; exact HL.out
 rw [hn] at HS
 clear hn
 obtain ⟨a, cap, rfl⟩ := HS.out
 clear HS
 cases hany : l.any p with
 | false =>
  rw [ixC_none hany] at hix
  have HF := Hi (filt_none hany)
  clear hany
  go_enter Tryz.func156, Tryz.ntmps156
  go_wp2_with fail
  refine (o_still HO.out hix).mono ?_
  rintro e x1 ⟨rfl, hO, hs⟩
  have HO1 := Hi hO
  have HS1 := Hi hs
  clear hO hs hix
  go_wp2
  go_ret
  exact ⟨_, rfl, by rw [HF.out]; exact HO1.out, HS1.out⟩
 | true =>
  obtain ⟨i, hi, h1, h2⟩ := any_first hany
  rw [ixC_hit hi h1 h2] at hix
  have HD := Hi (DI.start hi h1 h2)
  rw [HN.out] at hi
  have hne : ((i : Int) == -1) = false := by simp
  obtain ⟨g, rfl⟩ := row_some (show w.ownsRow 0 215 5 (.slice a n cap) n (l.flatMap cEn) by have := HO.out.row 0 rfl; rwa [HN.out] at this) (by omega)
  clear hany h1 h2
  go_enter Tryz.func156, Tryz.ntmps156
  go_wp2_with fail
  refine (o_still HO.out hix).mono ?_
  rintro e x1 ⟨rfl, hO, -⟩
  replace HO := Hi hO
  clear hO hix
  go_wp2
  clear hne
  go_loopw [5, 6] (fun jv kv wr => ∃ (j k : Nat) (m : List En), k ≤ n ∧ jv = .int .i64 j ∧ kv = .int .i64 k ∧ DI p l m j k ∧ Own w F wr [rowE (.slice (some ⟨g, 0, none⟩) n cap) m]) (fun _ kv _ => n - (intOf kv).toNat)
  case atStart => exact ⟨i, i + 1, l, by omega, rfl, by go_num, HD.out, HO.out⟩
  case round =>
   obtain ⟨j, k, m, hk, rfl, rfl, hD, hO⟩ := hrel
   have HO := Hi hO
   have hjk : j < k := hD.jk
   have HM := Hi (show m.length = n by rw [hD.len, HN.out])
   have HD := Hi hD
   clear hO hD
   by_cases hlt : k < n
   ·
    have hkl : k < l.length := by have := HN.out; omega
    have hmk := HD.out.get hkl
    have HSK := Hi (HD.out.skip (k := k) hkl)
    have HTK := Hi (HD.out.take (k := k) hkl)
    obtain ⟨hkm, hmk⟩ := List.getElem?_eq_some_iff.1 hmk
    have hrw : wr.ownsRow 0 215 5 (.slice (some ⟨g, 0, none⟩) n cap) n (m.flatMap cEn) := by have := HO.out.row 0 rfl; rwa [HM.out] at this
    have yc : ∀ q u, q < 5 → (cEn l[k])[q]? = some u → wr.cell? ⟨g, k * 5 + q, none⟩ = some u := fun q u hq hu => (row_cells hrw).1 _ _ (by rw [flat_getR cEn 5 (fun _ => rfl) m k hkm q hq, hmk]; exact hu)
    clear hmk
    generalize l[k] = x at *
    obtain ⟨nm, kd, ad, to, ex⟩ := x
    have y0 : wr.cell? ⟨g, k * 5, none⟩ = some (.string nm) := yc 0 _ (by decide) rfl
    have y1 : wr.cell? ⟨g, k * 5 + 1, none⟩ = some (.int .i64 kd) := yc 1 _ (by decide) rfl
    have y2 : wr.cell? ⟨g, k * 5 + 2, none⟩ = some (.int .i64 ad) := yc 2 _ (by decide) rfl
    have y3 : wr.cell? ⟨g, k * 5 + 3, none⟩ = some (.string to) := yc 3 _ (by decide) rfl
    have y4 : wr.cell? ⟨g, k * 5 + 4, none⟩ = some (.int .i64 ex) := yc 4 _ (by decide) rfl
    clear yc hkl hkm hrw
    obtain ⟨x21, hx21, bx, hbx, hO⟩ := HO.out.allocE (.cells #[.string ⟨#[]⟩, .int .i64 0, .int .i64 0, .string ⟨#[]⟩, .int .i64 0] 215)
    replace HO := Hi (show Own w F x21 [rowE (.slice (some ⟨g, 0, none⟩) n cap) m, blkR bx (.cells #[.string ⟨#[]⟩, .int .i64 0, .int .i64 0, .string ⟨#[]⟩, .int .i64 0] 215)] from hO)
    clear hO
    obtain ⟨x27, x32, x36, x39, x41, hx27, hx32, hx36, hx39, hx41, k1_0_22, lk1_0_22, k1_1_28, lk1_1_28, k1_2_33, lk1_2_33, k1_3_37, lk1_3_37, k1_4_40, lk1_4_40, hO⟩ := HO.out.steps5 1 rfl (.string nm) (.int .i64 kd) (.int .i64 ad) (.string to) (.int .i64 ex)
    replace HO := Hi (show Own _ _ _ [_, blkR bx (.cells #[.string nm, .int .i64 kd, .int .i64 ad, .string to, .int .i64 ex] 215)] from hO)
    clear hO
    obtain ⟨z1_0, z1_1, z1_2, z1_3, z1_4⟩ := HO.out.c5 1 rfl
    go_wp2_with fail
    refine (o_still HO.out (HP.out _ HO.out.upd ⟨nm, kd, ad, to, ex⟩)).mono ?_
    rintro e xc ⟨rfl, hO, -⟩
    replace HO := Hi hO
    clear hO y0 y1 y2 y3 y4
    clear hx21 hbx k1_0_22 lk1_0_22 hx27 k1_1_28 lk1_1_28 hx32 k1_2_33 lk1_2_33 hx36 k1_3_37 lk1_3_37 hx39 k1_4_40 lk1_4_40 hx41 z1_0 z1_1 z1_2 z1_3 z1_4
    cases hpx : p ⟨nm, kd, ad, to, ex⟩ with
    | true =>
     have HD2 := Hi (HSK.out hpx)
     clear hpx HSK HTK
     go_wp2
     go_roundw
     case rel => exact ⟨j, k + 1, m, by omega, rfl, by go_num, HD2.out, HO.out.take 1⟩
     case measure => simp [intOf]; omega
    | false =>
     have HD2 := Hi (HTK.out hpx)
     clear hpx HSK HTK
     have z1_0 : xc.cell? _ = some (.string nm) := HO.out.cell 1 rfl 0 rfl
     have z1_1 : xc.cell? _ = some (.int .i64 kd) := HO.out.cell 1 rfl 1 rfl
     have z1_2 : xc.cell? _ = some (.int .i64 ad) := HO.out.cell 1 rfl 2 rfl
     have z1_3 : xc.cell? _ = some (.string to) := HO.out.cell 1 rfl 3 rfl
     have z1_4 : xc.cell? _ = some (.int .i64 ex) := HO.out.cell 1 rfl 4 rfl
     have hjm : j < m.length := by have := HM.out; omega
     have hcj : ∀ q u, q < 5 → (cEn m[j])[q]? = some u → (m.flatMap cEn)[j * 5 + q]? = some u := fun q u hq hu => by rw [flat_getR cEn 5 (fun _ => rfl) m j hjm q hq]; exact hu
     have HFS := Hi (flat_set5 m j ⟨nm, kd, ad, to, ex⟩ hjm)
     generalize m[j] = o at hcj
     obtain ⟨onm, okd, oad, oto, oex⟩ := o
     have c0 : (m.flatMap cEn)[j * 5]? = some (.string onm) := hcj 0 _ (by decide) rfl
     have c1 : (m.flatMap cEn)[j * 5 + 1]? = some (.int .i64 okd) := hcj 1 _ (by decide) rfl
     have c2 : (m.flatMap cEn)[j * 5 + 2]? = some (.int .i64 oad) := hcj 2 _ (by decide) rfl
     have c3 : (m.flatMap cEn)[j * 5 + 3]? = some (.string oto) := hcj 3 _ (by decide) rfl
     have c4 : (m.flatMap cEn)[j * 5 + 4]? = some (.int .i64 oex) := hcj 4 _ (by decide) rfl
     have HC := Hi (And.intro c0 (And.intro c1 (And.intro c2 (And.intro c3 c4))))
     obtain ⟨xs, hxs⟩ : ∃ xs, m.flatMap cEn = xs := ⟨_, rfl⟩
     have hO := HO.out
     simp only [rowE, HM.out, hxs] at hO
     rw [hxs] at HC HFS
     clear c0 c1 c2 c3 c4 hcj hxs hjm
     replace HO := Hi (show Own _ _ _ [rowR (.slice (some ⟨g, 0, none⟩) n cap) 215 5 n xs, _] from hO)
     clear hO
     have hrc := row_cells (HO.out.row 0 rfl)
     have g0_0 : xc.cell? ⟨g, j * 5, none⟩ = some (.string onm) := hrc.1 _ _ (HC.out.1)
     have f0_0 : xc.frozen? ⟨g, j * 5, none⟩ = false := hrc.2 _
     have g0_1 : xc.cell? ⟨g, j * 5 + 1, none⟩ = some (.int .i64 okd) := hrc.1 _ _ (HC.out.2.1)
     have f0_1 : xc.frozen? ⟨g, j * 5 + 1, none⟩ = false := hrc.2 _
     have g0_2 : xc.cell? ⟨g, j * 5 + 2, none⟩ = some (.int .i64 oad) := hrc.1 _ _ (HC.out.2.2.1)
     have f0_2 : xc.frozen? ⟨g, j * 5 + 2, none⟩ = false := hrc.2 _
     have g0_3 : xc.cell? ⟨g, j * 5 + 3, none⟩ = some (.string oto) := hrc.1 _ _ (HC.out.2.2.2.1)
     have f0_3 : xc.frozen? ⟨g, j * 5 + 3, none⟩ = false := hrc.2 _
     have g0_4 : xc.cell? ⟨g, j * 5 + 4, none⟩ = some (.int .i64 oex) := hrc.1 _ _ (HC.out.2.2.2.2)
     have f0_4 : xc.frozen? ⟨g, j * 5 + 4, none⟩ = false := hrc.2 _
     clear hrc
     obtain ⟨x42, hx42⟩ : ∃ y, xc.setCell ⟨g, j * 5, none⟩ (.string nm) = y := ⟨_, rfl⟩
     have hO := Own.rowSet HO.out 0 rfl (j * 5) (.string nm)
     rw [hx42] at hO
     replace HO := Hi (show Own _ _ _ [rowR (.slice (some ⟨g, 0, none⟩) n cap) 215 5 n (xs.set (j * 5) (.string nm)), _] from hO)
     clear hO
     have hrc := row_cells (HO.out.row 0 rfl)
     have g1_1 : x42.cell? ⟨g, j * 5 + 1, none⟩ = some (.int .i64 okd) := hrc.1 _ _ (by simp [List.getElem?_set_ne, HC.out.2.1])
     have f1_1 : x42.frozen? ⟨g, j * 5 + 1, none⟩ = false := hrc.2 _
     have g1_2 : x42.cell? ⟨g, j * 5 + 2, none⟩ = some (.int .i64 oad) := hrc.1 _ _ (by simp [List.getElem?_set_ne, HC.out.2.2.1])
     have f1_2 : x42.frozen? ⟨g, j * 5 + 2, none⟩ = false := hrc.2 _
     have g1_3 : x42.cell? ⟨g, j * 5 + 3, none⟩ = some (.string oto) := hrc.1 _ _ (by simp [List.getElem?_set_ne, HC.out.2.2.2.1])
     have f1_3 : x42.frozen? ⟨g, j * 5 + 3, none⟩ = false := hrc.2 _
     have g1_4 : x42.cell? ⟨g, j * 5 + 4, none⟩ = some (.int .i64 oex) := hrc.1 _ _ (by simp [List.getElem?_set_ne, HC.out.2.2.2.2])
     have f1_4 : x42.frozen? ⟨g, j * 5 + 4, none⟩ = false := hrc.2 _
     clear hrc
     obtain ⟨x43, hx43⟩ : ∃ y, x42.setCell ⟨g, j * 5 + 1, none⟩ (.int .i64 kd) = y := ⟨_, rfl⟩
     have hO := Own.rowSet HO.out 0 rfl (j * 5 + 1) (.int .i64 kd)
     rw [hx43] at hO
     replace HO := Hi (show Own _ _ _ [rowR (.slice (some ⟨g, 0, none⟩) n cap) 215 5 n ((xs.set (j * 5) (.string nm)).set (j * 5 + 1) (.int .i64 kd)), _] from hO)
     clear hO
     have hrc := row_cells (HO.out.row 0 rfl)
     have g2_2 : x43.cell? ⟨g, j * 5 + 2, none⟩ = some (.int .i64 oad) := hrc.1 _ _ (by simp [List.getElem?_set_ne, HC.out.2.2.1])
     have f2_2 : x43.frozen? ⟨g, j * 5 + 2, none⟩ = false := hrc.2 _
     have g2_3 : x43.cell? ⟨g, j * 5 + 3, none⟩ = some (.string oto) := hrc.1 _ _ (by simp [List.getElem?_set_ne, HC.out.2.2.2.1])
     have f2_3 : x43.frozen? ⟨g, j * 5 + 3, none⟩ = false := hrc.2 _
     have g2_4 : x43.cell? ⟨g, j * 5 + 4, none⟩ = some (.int .i64 oex) := hrc.1 _ _ (by simp [List.getElem?_set_ne, HC.out.2.2.2.2])
     have f2_4 : x43.frozen? ⟨g, j * 5 + 4, none⟩ = false := hrc.2 _
     clear hrc
     obtain ⟨x44, hx44⟩ : ∃ y, x43.setCell ⟨g, j * 5 + 2, none⟩ (.int .i64 ad) = y := ⟨_, rfl⟩
     have hO := Own.rowSet HO.out 0 rfl (j * 5 + 2) (.int .i64 ad)
     rw [hx44] at hO
     replace HO := Hi (show Own _ _ _ [rowR (.slice (some ⟨g, 0, none⟩) n cap) 215 5 n (((xs.set (j * 5) (.string nm)).set (j * 5 + 1) (.int .i64 kd)).set (j * 5 + 2) (.int .i64 ad)), _] from hO)
     clear hO
     have hrc := row_cells (HO.out.row 0 rfl)
     have g3_3 : x44.cell? ⟨g, j * 5 + 3, none⟩ = some (.string oto) := hrc.1 _ _ (by simp [List.getElem?_set_ne, HC.out.2.2.2.1])
     have f3_3 : x44.frozen? ⟨g, j * 5 + 3, none⟩ = false := hrc.2 _
     have g3_4 : x44.cell? ⟨g, j * 5 + 4, none⟩ = some (.int .i64 oex) := hrc.1 _ _ (by simp [List.getElem?_set_ne, HC.out.2.2.2.2])
     have f3_4 : x44.frozen? ⟨g, j * 5 + 4, none⟩ = false := hrc.2 _
     clear hrc
     obtain ⟨x45, hx45⟩ : ∃ y, x44.setCell ⟨g, j * 5 + 3, none⟩ (.string to) = y := ⟨_, rfl⟩
     have hO := Own.rowSet HO.out 0 rfl (j * 5 + 3) (.string to)
     rw [hx45] at hO
     replace HO := Hi (show Own _ _ _ [rowR (.slice (some ⟨g, 0, none⟩) n cap) 215 5 n ((((xs.set (j * 5) (.string nm)).set (j * 5 + 1) (.int .i64 kd)).set (j * 5 + 2) (.int .i64 ad)).set (j * 5 + 3) (.string to)), _] from hO)
     clear hO
     have hrc := row_cells (HO.out.row 0 rfl)
     have g4_4 : x45.cell? ⟨g, j * 5 + 4, none⟩ = some (.int .i64 oex) := hrc.1 _ _ (by simp [List.getElem?_set_ne, HC.out.2.2.2.2])
     have f4_4 : x45.frozen? ⟨g, j * 5 + 4, none⟩ = false := hrc.2 _
     clear hrc
     obtain ⟨x46, hx46⟩ : ∃ y, x45.setCell ⟨g, j * 5 + 4, none⟩ (.int .i64 ex) = y := ⟨_, rfl⟩
     have hO := Own.rowSet HO.out 0 rfl (j * 5 + 4) (.int .i64 ex)
     rw [hx46] at hO
     replace HO := Hi (show Own _ _ _ [rowR (.slice (some ⟨g, 0, none⟩) n cap) 215 5 n (((((xs.set (j * 5) (.string nm)).set (j * 5 + 1) (.int .i64 kd)).set (j * 5 + 2) (.int .i64 ad)).set (j * 5 + 3) (.string to)).set (j * 5 + 4) (.int .i64 ex)), _] from hO)
     clear hO
     have hO := HO.out
     rw [HFS.out] at hO
     have e1 : rowR (.slice (some ⟨g, 0, none⟩) n cap) 215 5 n ((m.set j ⟨nm, kd, ad, to, ex⟩).flatMap cEn) = rowE (.slice (some ⟨g, 0, none⟩) n cap) (m.set j ⟨nm, kd, ad, to, ex⟩) := by
      show _ = rowR _ _ _ _ _
      rw [List.length_set, HM.out]
     rw [e1] at hO
     replace HO := Hi (show Own _ _ _ [rowE (.slice (some ⟨g, 0, none⟩) n cap) (m.set j ⟨nm, kd, ad, to, ex⟩), _] from hO)
     clear hO e1
     go_wp2
     go_roundw
     case rel => exact ⟨j + 1, k + 1, m.set j ⟨nm, kd, ad, to, ex⟩, by omega, by go_num, by go_num, HD2.out, HO.out.take 1⟩
     case measure => simp [intOf]; omega
   ·
    have hke : k = n := by omega
    subst hke
    have hjm : j ≤ m.length := by have := HM.out; omega
    have HTK := Hi (show m.take j = l.filter fun x => !p x by rw [HD.out.done, ← HN.out, List.take_length])
    have hrc := row_cells (show wr.ownsRow 0 215 5 (.slice (some ⟨g, 0, none⟩) k cap) k (m.flatMap cEn) by have := HO.out.row 0 rfl; rwa [HM.out] at this)
    have hml : (m.flatMap cEn).length = k * 5 := by have := (HO.out.row 0 rfl).1; rwa [HM.out] at this
    obtain ⟨d, hd⟩ : ∃ d, k - j = d := ⟨_, rfl⟩
    have hcl : ∀ ty c, (Builtin.clear_ #[197] ty #[.slice (some ⟨g, j * 5, none⟩) d c]).run Tryz.prog wr = .ok (.tuple #[]) (wr.setCells g (j * 5) (Builtin.zeroCells (.agg #[.string ⟨#[]⟩, .int .i64 0, .int .i64 0, .string ⟨#[]⟩, .int .i64 0] : Value).cells d).toList) := fun ty c =>
     run_clear_K wr 197 215 ty _ Tryz.underlying197 zeroEn (fun n => zeroCells_one (fun i hi => by
      have hi5 : i < 5 := hi
      obtain rfl | rfl | rfl | rfl | rfl : i = 0 ∨ i = 1 ∨ i = 2 ∨ i = 3 ∨ i = 4 := by omega
      all_goals rfl)) g (j * 5) d c (by omega)
      (fun q hq => by
       have hq5 : q < d * 5 := hq
       rw [hrc.1 (j * 5 + q) _ (List.getElem?_eq_getElem (by rw [hml]; omega))]; rfl) (fun q _ => hrc.2 _)
    have hjc := row_cap (show wr.ownsRow 0 215 5 (.slice (some ⟨g, 0, none⟩) k cap) k (m.flatMap cEn) by have := HO.out.row 0 rfl; rwa [HM.out] at this)
    have hj1 : j ≤ cap := by omega
    have hj2 : ¬ cap = j := by omega
    have HO2 := Hi (del_end HO.out HM.out (show j ≤ k by omega) HTK.out (Builtin.zeroCells (.agg #[.string ⟨#[]⟩, .int .i64 0, .int .i64 0, .string ⟨#[]⟩, .int .i64 0] : Value).cells d).toList)
    clear hrc hml hjm hjc
    go_wp2
    go_ret
    exact ⟨_, rfl, HO2.out, HO2.out.size⟩
theorem delN {w : World} {F : Nat → Prop} (l : List En) (p : En → Bool) (b1 : Nat) (h : Own w F w [rowE v l]) (hp : ∀ w', Upd F w w' → ∀ x : En, Calls Tryz.prog 169 #[enV x, .pointer (some ⟨b1, 0, none⟩)] w' fun e w'' => e = .returned (.bool (p x)) ∧ Below w'.heap.size w' w'') (hl : l.length ≤ 1000) :
  Calls Tryz.prog 156 #[v, .func (.func 169) #[] #[.pointer (some ⟨b1, 0, none⟩)]] w (DelO F (l.filter fun x => !p x) w) := by
 have HO := Hi h
 have HP := Hi hp
 have HL := Hi hl
 have hix := indexN l p b1 (fun w' hb x => hp w' (Upd.of_below hb) x) (h.row 0 rfl) hl
 have HS := Hi (row_shape (h.row 0 rfl))
 clear h hp hl
 obtain ⟨n, hn⟩ : ∃ n, l.length = n := ⟨_, rfl⟩
 have HN := Hi hn
 have hn1 : n ≤ 1000 := by rw [← hn]; exact HL.out
 rw [hn] at HS
 clear hn
 obtain ⟨a, cap, rfl⟩ := HS.out
 clear HS
 cases hany : l.any p with
 | false =>
  rw [ixC_none hany] at hix
  have HF := Hi (filt_none hany)
  clear hany
  go_enter Tryz.func156, Tryz.ntmps156
  go_wp2_with fail
  refine (o_still HO.out hix).mono ?_
  rintro e x1 ⟨rfl, hO, hs⟩
  have HO1 := Hi hO
  have HS1 := Hi hs
  clear hO hs hix
  go_wp2
  go_ret
  exact ⟨_, rfl, by rw [HF.out]; exact HO1.out, HS1.out⟩
 | true =>
  obtain ⟨i, hi, h1, h2⟩ := any_first hany
  rw [ixC_hit hi h1 h2] at hix
  have HD := Hi (DI.start hi h1 h2)
  rw [HN.out] at hi
  have hne : ((i : Int) == -1) = false := by simp
  obtain ⟨g, rfl⟩ := row_some (show w.ownsRow 0 215 5 (.slice a n cap) n (l.flatMap cEn) by have := HO.out.row 0 rfl; rwa [HN.out] at this) (by omega)
  clear hany h1 h2
  go_enter Tryz.func156, Tryz.ntmps156
  go_wp2_with fail
  refine (o_still HO.out hix).mono ?_
  rintro e x1 ⟨rfl, hO, -⟩
  replace HO := Hi hO
  clear hO hix
  go_wp2
  clear hne
  go_loopw [5, 6] (fun jv kv wr => ∃ (j k : Nat) (m : List En), k ≤ n ∧ jv = .int .i64 j ∧ kv = .int .i64 k ∧ DI p l m j k ∧ Own w F wr [rowE (.slice (some ⟨g, 0, none⟩) n cap) m]) (fun _ kv _ => n - (intOf kv).toNat)
  case atStart => exact ⟨i, i + 1, l, by omega, rfl, by go_num, HD.out, HO.out⟩
  case round =>
   obtain ⟨j, k, m, hk, rfl, rfl, hD, hO⟩ := hrel
   have HO := Hi hO
   have hjk : j < k := hD.jk
   have HM := Hi (show m.length = n by rw [hD.len, HN.out])
   have HD := Hi hD
   clear hO hD
   by_cases hlt : k < n
   ·
    have hkl : k < l.length := by have := HN.out; omega
    have hmk := HD.out.get hkl
    have HSK := Hi (HD.out.skip (k := k) hkl)
    have HTK := Hi (HD.out.take (k := k) hkl)
    obtain ⟨hkm, hmk⟩ := List.getElem?_eq_some_iff.1 hmk
    have hrw : wr.ownsRow 0 215 5 (.slice (some ⟨g, 0, none⟩) n cap) n (m.flatMap cEn) := by have := HO.out.row 0 rfl; rwa [HM.out] at this
    have yc : ∀ q u, q < 5 → (cEn l[k])[q]? = some u → wr.cell? ⟨g, k * 5 + q, none⟩ = some u := fun q u hq hu => (row_cells hrw).1 _ _ (by rw [flat_getR cEn 5 (fun _ => rfl) m k hkm q hq, hmk]; exact hu)
    clear hmk
    generalize l[k] = x at *
    obtain ⟨nm, kd, ad, to, ex⟩ := x
    have y0 : wr.cell? ⟨g, k * 5, none⟩ = some (.string nm) := yc 0 _ (by decide) rfl
    have y1 : wr.cell? ⟨g, k * 5 + 1, none⟩ = some (.int .i64 kd) := yc 1 _ (by decide) rfl
    have y2 : wr.cell? ⟨g, k * 5 + 2, none⟩ = some (.int .i64 ad) := yc 2 _ (by decide) rfl
    have y3 : wr.cell? ⟨g, k * 5 + 3, none⟩ = some (.string to) := yc 3 _ (by decide) rfl
    have y4 : wr.cell? ⟨g, k * 5 + 4, none⟩ = some (.int .i64 ex) := yc 4 _ (by decide) rfl
    clear yc hkl hkm hrw
    obtain ⟨x21, hx21, bx, hbx, hO⟩ := HO.out.allocE (.cells #[.string ⟨#[]⟩, .int .i64 0, .int .i64 0, .string ⟨#[]⟩, .int .i64 0] 215)
    replace HO := Hi (show Own w F x21 [rowE (.slice (some ⟨g, 0, none⟩) n cap) m, blkR bx (.cells #[.string ⟨#[]⟩, .int .i64 0, .int .i64 0, .string ⟨#[]⟩, .int .i64 0] 215)] from hO)
    clear hO
    obtain ⟨x27, x32, x36, x39, x41, hx27, hx32, hx36, hx39, hx41, k1_0_22, lk1_0_22, k1_1_28, lk1_1_28, k1_2_33, lk1_2_33, k1_3_37, lk1_3_37, k1_4_40, lk1_4_40, hO⟩ := HO.out.steps5 1 rfl (.string nm) (.int .i64 kd) (.int .i64 ad) (.string to) (.int .i64 ex)
    replace HO := Hi (show Own _ _ _ [_, blkR bx (.cells #[.string nm, .int .i64 kd, .int .i64 ad, .string to, .int .i64 ex] 215)] from hO)
    clear hO
    obtain ⟨z1_0, z1_1, z1_2, z1_3, z1_4⟩ := HO.out.c5 1 rfl
    go_wp2_with fail
    refine (o_still HO.out (HP.out _ HO.out.upd ⟨nm, kd, ad, to, ex⟩)).mono ?_
    rintro e xc ⟨rfl, hO, -⟩
    replace HO := Hi hO
    clear hO y0 y1 y2 y3 y4
    clear hx21 hbx k1_0_22 lk1_0_22 hx27 k1_1_28 lk1_1_28 hx32 k1_2_33 lk1_2_33 hx36 k1_3_37 lk1_3_37 hx39 k1_4_40 lk1_4_40 hx41 z1_0 z1_1 z1_2 z1_3 z1_4
    cases hpx : p ⟨nm, kd, ad, to, ex⟩ with
    | true =>
     have HD2 := Hi (HSK.out hpx)
     clear hpx HSK HTK
     go_wp2
     go_roundw
     case rel => exact ⟨j, k + 1, m, by omega, rfl, by go_num, HD2.out, HO.out.take 1⟩
     case measure => simp [intOf]; omega
    | false =>
     have HD2 := Hi (HTK.out hpx)
     clear hpx HSK HTK
     have z1_0 : xc.cell? _ = some (.string nm) := HO.out.cell 1 rfl 0 rfl
     have z1_1 : xc.cell? _ = some (.int .i64 kd) := HO.out.cell 1 rfl 1 rfl
     have z1_2 : xc.cell? _ = some (.int .i64 ad) := HO.out.cell 1 rfl 2 rfl
     have z1_3 : xc.cell? _ = some (.string to) := HO.out.cell 1 rfl 3 rfl
     have z1_4 : xc.cell? _ = some (.int .i64 ex) := HO.out.cell 1 rfl 4 rfl
     have hjm : j < m.length := by have := HM.out; omega
     have hcj : ∀ q u, q < 5 → (cEn m[j])[q]? = some u → (m.flatMap cEn)[j * 5 + q]? = some u := fun q u hq hu => by rw [flat_getR cEn 5 (fun _ => rfl) m j hjm q hq]; exact hu
     have HFS := Hi (flat_set5 m j ⟨nm, kd, ad, to, ex⟩ hjm)
     generalize m[j] = o at hcj
     obtain ⟨onm, okd, oad, oto, oex⟩ := o
     have c0 : (m.flatMap cEn)[j * 5]? = some (.string onm) := hcj 0 _ (by decide) rfl
     have c1 : (m.flatMap cEn)[j * 5 + 1]? = some (.int .i64 okd) := hcj 1 _ (by decide) rfl
     have c2 : (m.flatMap cEn)[j * 5 + 2]? = some (.int .i64 oad) := hcj 2 _ (by decide) rfl
     have c3 : (m.flatMap cEn)[j * 5 + 3]? = some (.string oto) := hcj 3 _ (by decide) rfl
     have c4 : (m.flatMap cEn)[j * 5 + 4]? = some (.int .i64 oex) := hcj 4 _ (by decide) rfl
     have HC := Hi (And.intro c0 (And.intro c1 (And.intro c2 (And.intro c3 c4))))
     obtain ⟨xs, hxs⟩ : ∃ xs, m.flatMap cEn = xs := ⟨_, rfl⟩
     have hO := HO.out
     simp only [rowE, HM.out, hxs] at hO
     rw [hxs] at HC HFS
     clear c0 c1 c2 c3 c4 hcj hxs hjm
     replace HO := Hi (show Own _ _ _ [rowR (.slice (some ⟨g, 0, none⟩) n cap) 215 5 n xs, _] from hO)
     clear hO
     have hrc := row_cells (HO.out.row 0 rfl)
     have g0_0 : xc.cell? ⟨g, j * 5, none⟩ = some (.string onm) := hrc.1 _ _ (HC.out.1)
     have f0_0 : xc.frozen? ⟨g, j * 5, none⟩ = false := hrc.2 _
     have g0_1 : xc.cell? ⟨g, j * 5 + 1, none⟩ = some (.int .i64 okd) := hrc.1 _ _ (HC.out.2.1)
     have f0_1 : xc.frozen? ⟨g, j * 5 + 1, none⟩ = false := hrc.2 _
     have g0_2 : xc.cell? ⟨g, j * 5 + 2, none⟩ = some (.int .i64 oad) := hrc.1 _ _ (HC.out.2.2.1)
     have f0_2 : xc.frozen? ⟨g, j * 5 + 2, none⟩ = false := hrc.2 _
     have g0_3 : xc.cell? ⟨g, j * 5 + 3, none⟩ = some (.string oto) := hrc.1 _ _ (HC.out.2.2.2.1)
     have f0_3 : xc.frozen? ⟨g, j * 5 + 3, none⟩ = false := hrc.2 _
     have g0_4 : xc.cell? ⟨g, j * 5 + 4, none⟩ = some (.int .i64 oex) := hrc.1 _ _ (HC.out.2.2.2.2)
     have f0_4 : xc.frozen? ⟨g, j * 5 + 4, none⟩ = false := hrc.2 _
     clear hrc
     obtain ⟨x42, hx42⟩ : ∃ y, xc.setCell ⟨g, j * 5, none⟩ (.string nm) = y := ⟨_, rfl⟩
     have hO := Own.rowSet HO.out 0 rfl (j * 5) (.string nm)
     rw [hx42] at hO
     replace HO := Hi (show Own _ _ _ [rowR (.slice (some ⟨g, 0, none⟩) n cap) 215 5 n (xs.set (j * 5) (.string nm)), _] from hO)
     clear hO
     have hrc := row_cells (HO.out.row 0 rfl)
     have g1_1 : x42.cell? ⟨g, j * 5 + 1, none⟩ = some (.int .i64 okd) := hrc.1 _ _ (by simp [List.getElem?_set_ne, HC.out.2.1])
     have f1_1 : x42.frozen? ⟨g, j * 5 + 1, none⟩ = false := hrc.2 _
     have g1_2 : x42.cell? ⟨g, j * 5 + 2, none⟩ = some (.int .i64 oad) := hrc.1 _ _ (by simp [List.getElem?_set_ne, HC.out.2.2.1])
     have f1_2 : x42.frozen? ⟨g, j * 5 + 2, none⟩ = false := hrc.2 _
     have g1_3 : x42.cell? ⟨g, j * 5 + 3, none⟩ = some (.string oto) := hrc.1 _ _ (by simp [List.getElem?_set_ne, HC.out.2.2.2.1])
     have f1_3 : x42.frozen? ⟨g, j * 5 + 3, none⟩ = false := hrc.2 _
     have g1_4 : x42.cell? ⟨g, j * 5 + 4, none⟩ = some (.int .i64 oex) := hrc.1 _ _ (by simp [List.getElem?_set_ne, HC.out.2.2.2.2])
     have f1_4 : x42.frozen? ⟨g, j * 5 + 4, none⟩ = false := hrc.2 _
     clear hrc
     obtain ⟨x43, hx43⟩ : ∃ y, x42.setCell ⟨g, j * 5 + 1, none⟩ (.int .i64 kd) = y := ⟨_, rfl⟩
     have hO := Own.rowSet HO.out 0 rfl (j * 5 + 1) (.int .i64 kd)
     rw [hx43] at hO
     replace HO := Hi (show Own _ _ _ [rowR (.slice (some ⟨g, 0, none⟩) n cap) 215 5 n ((xs.set (j * 5) (.string nm)).set (j * 5 + 1) (.int .i64 kd)), _] from hO)
     clear hO
     have hrc := row_cells (HO.out.row 0 rfl)
     have g2_2 : x43.cell? ⟨g, j * 5 + 2, none⟩ = some (.int .i64 oad) := hrc.1 _ _ (by simp [List.getElem?_set_ne, HC.out.2.2.1])
     have f2_2 : x43.frozen? ⟨g, j * 5 + 2, none⟩ = false := hrc.2 _
     have g2_3 : x43.cell? ⟨g, j * 5 + 3, none⟩ = some (.string oto) := hrc.1 _ _ (by simp [List.getElem?_set_ne, HC.out.2.2.2.1])
     have f2_3 : x43.frozen? ⟨g, j * 5 + 3, none⟩ = false := hrc.2 _
     have g2_4 : x43.cell? ⟨g, j * 5 + 4, none⟩ = some (.int .i64 oex) := hrc.1 _ _ (by simp [List.getElem?_set_ne, HC.out.2.2.2.2])
     have f2_4 : x43.frozen? ⟨g, j * 5 + 4, none⟩ = false := hrc.2 _
     clear hrc
     obtain ⟨x44, hx44⟩ : ∃ y, x43.setCell ⟨g, j * 5 + 2, none⟩ (.int .i64 ad) = y := ⟨_, rfl⟩
     have hO := Own.rowSet HO.out 0 rfl (j * 5 + 2) (.int .i64 ad)
     rw [hx44] at hO
     replace HO := Hi (show Own _ _ _ [rowR (.slice (some ⟨g, 0, none⟩) n cap) 215 5 n (((xs.set (j * 5) (.string nm)).set (j * 5 + 1) (.int .i64 kd)).set (j * 5 + 2) (.int .i64 ad)), _] from hO)
     clear hO
     have hrc := row_cells (HO.out.row 0 rfl)
     have g3_3 : x44.cell? ⟨g, j * 5 + 3, none⟩ = some (.string oto) := hrc.1 _ _ (by simp [List.getElem?_set_ne, HC.out.2.2.2.1])
     have f3_3 : x44.frozen? ⟨g, j * 5 + 3, none⟩ = false := hrc.2 _
     have g3_4 : x44.cell? ⟨g, j * 5 + 4, none⟩ = some (.int .i64 oex) := hrc.1 _ _ (by simp [List.getElem?_set_ne, HC.out.2.2.2.2])
     have f3_4 : x44.frozen? ⟨g, j * 5 + 4, none⟩ = false := hrc.2 _
     clear hrc
     obtain ⟨x45, hx45⟩ : ∃ y, x44.setCell ⟨g, j * 5 + 3, none⟩ (.string to) = y := ⟨_, rfl⟩
     have hO := Own.rowSet HO.out 0 rfl (j * 5 + 3) (.string to)
     rw [hx45] at hO
     replace HO := Hi (show Own _ _ _ [rowR (.slice (some ⟨g, 0, none⟩) n cap) 215 5 n ((((xs.set (j * 5) (.string nm)).set (j * 5 + 1) (.int .i64 kd)).set (j * 5 + 2) (.int .i64 ad)).set (j * 5 + 3) (.string to)), _] from hO)
     clear hO
     have hrc := row_cells (HO.out.row 0 rfl)
     have g4_4 : x45.cell? ⟨g, j * 5 + 4, none⟩ = some (.int .i64 oex) := hrc.1 _ _ (by simp [List.getElem?_set_ne, HC.out.2.2.2.2])
     have f4_4 : x45.frozen? ⟨g, j * 5 + 4, none⟩ = false := hrc.2 _
     clear hrc
     obtain ⟨x46, hx46⟩ : ∃ y, x45.setCell ⟨g, j * 5 + 4, none⟩ (.int .i64 ex) = y := ⟨_, rfl⟩
     have hO := Own.rowSet HO.out 0 rfl (j * 5 + 4) (.int .i64 ex)
     rw [hx46] at hO
     replace HO := Hi (show Own _ _ _ [rowR (.slice (some ⟨g, 0, none⟩) n cap) 215 5 n (((((xs.set (j * 5) (.string nm)).set (j * 5 + 1) (.int .i64 kd)).set (j * 5 + 2) (.int .i64 ad)).set (j * 5 + 3) (.string to)).set (j * 5 + 4) (.int .i64 ex)), _] from hO)
     clear hO
     have hO := HO.out
     rw [HFS.out] at hO
     have e1 : rowR (.slice (some ⟨g, 0, none⟩) n cap) 215 5 n ((m.set j ⟨nm, kd, ad, to, ex⟩).flatMap cEn) = rowE (.slice (some ⟨g, 0, none⟩) n cap) (m.set j ⟨nm, kd, ad, to, ex⟩) := by
      show _ = rowR _ _ _ _ _
      rw [List.length_set, HM.out]
     rw [e1] at hO
     replace HO := Hi (show Own _ _ _ [rowE (.slice (some ⟨g, 0, none⟩) n cap) (m.set j ⟨nm, kd, ad, to, ex⟩), _] from hO)
     clear hO e1
     go_wp2
     go_roundw
     case rel => exact ⟨j + 1, k + 1, m.set j ⟨nm, kd, ad, to, ex⟩, by omega, by go_num, by go_num, HD2.out, HO.out.take 1⟩
     case measure => simp [intOf]; omega
   ·
    have hke : k = n := by omega
    subst hke
    have hjm : j ≤ m.length := by have := HM.out; omega
    have HTK := Hi (show m.take j = l.filter fun x => !p x by rw [HD.out.done, ← HN.out, List.take_length])
    have hrc := row_cells (show wr.ownsRow 0 215 5 (.slice (some ⟨g, 0, none⟩) k cap) k (m.flatMap cEn) by have := HO.out.row 0 rfl; rwa [HM.out] at this)
    have hml : (m.flatMap cEn).length = k * 5 := by have := (HO.out.row 0 rfl).1; rwa [HM.out] at this
    obtain ⟨d, hd⟩ : ∃ d, k - j = d := ⟨_, rfl⟩
    have hcl : ∀ ty c, (Builtin.clear_ #[197] ty #[.slice (some ⟨g, j * 5, none⟩) d c]).run Tryz.prog wr = .ok (.tuple #[]) (wr.setCells g (j * 5) (Builtin.zeroCells (.agg #[.string ⟨#[]⟩, .int .i64 0, .int .i64 0, .string ⟨#[]⟩, .int .i64 0] : Value).cells d).toList) := fun ty c =>
     run_clear_K wr 197 215 ty _ Tryz.underlying197 zeroEn (fun n => zeroCells_one (fun i hi => by
      have hi5 : i < 5 := hi
      obtain rfl | rfl | rfl | rfl | rfl : i = 0 ∨ i = 1 ∨ i = 2 ∨ i = 3 ∨ i = 4 := by omega
      all_goals rfl)) g (j * 5) d c (by omega)
      (fun q hq => by
       have hq5 : q < d * 5 := hq
       rw [hrc.1 (j * 5 + q) _ (List.getElem?_eq_getElem (by rw [hml]; omega))]; rfl) (fun q _ => hrc.2 _)
    have hjc := row_cap (show wr.ownsRow 0 215 5 (.slice (some ⟨g, 0, none⟩) k cap) k (m.flatMap cEn) by have := HO.out.row 0 rfl; rwa [HM.out] at this)
    have hj1 : j ≤ cap := by omega
    have hj2 : ¬ cap = j := by omega
    have HO2 := Hi (del_end HO.out HM.out (show j ≤ k by omega) HTK.out (Builtin.zeroCells (.agg #[.string ⟨#[]⟩, .int .i64 0, .int .i64 0, .string ⟨#[]⟩, .int .i64 0] : Value).cells d).toList)
    clear hrc hml hjm hjc
    go_wp2
    go_ret
    exact ⟨_, rfl, HO2.out, HO2.out.size⟩
theorem delT {w : World} {F : Nat → Prop} (l : List En) (p : En → Bool) (b1 : Nat) (h : Own w F w [rowE v l]) (hp : ∀ w', Upd F w w' → ∀ x : En, Calls Tryz.prog 114 #[enV x, .pointer (some ⟨b1, 0, none⟩)] w' fun e w'' => e = .returned (.bool (p x)) ∧ Below w'.heap.size w' w'') (hl : l.length ≤ 1000) :
  Calls Tryz.prog 156 #[v, .func (.func 114) #[] #[.pointer (some ⟨b1, 0, none⟩)]] w (DelO F (l.filter fun x => !p x) w) := by
 have HO := Hi h
 have HP := Hi hp
 have HL := Hi hl
 have hix := indexT l p b1 (fun w' hb x => hp w' (Upd.of_below hb) x) (h.row 0 rfl) hl
 have HS := Hi (row_shape (h.row 0 rfl))
 clear h hp hl
 obtain ⟨n, hn⟩ : ∃ n, l.length = n := ⟨_, rfl⟩
 have HN := Hi hn
 have hn1 : n ≤ 1000 := by rw [← hn]; exact HL.out
 rw [hn] at HS
 clear hn
 obtain ⟨a, cap, rfl⟩ := HS.out
 clear HS
 cases hany : l.any p with
 | false =>
  rw [ixC_none hany] at hix
  have HF := Hi (filt_none hany)
  clear hany
  go_enter Tryz.func156, Tryz.ntmps156
  go_wp2_with fail
  refine (o_still HO.out hix).mono ?_
  rintro e x1 ⟨rfl, hO, hs⟩
  have HO1 := Hi hO
  have HS1 := Hi hs
  clear hO hs hix
  go_wp2
  go_ret
  exact ⟨_, rfl, by rw [HF.out]; exact HO1.out, HS1.out⟩
 | true =>
  obtain ⟨i, hi, h1, h2⟩ := any_first hany
  rw [ixC_hit hi h1 h2] at hix
  have HD := Hi (DI.start hi h1 h2)
  rw [HN.out] at hi
  have hne : ((i : Int) == -1) = false := by simp
  obtain ⟨g, rfl⟩ := row_some (show w.ownsRow 0 215 5 (.slice a n cap) n (l.flatMap cEn) by have := HO.out.row 0 rfl; rwa [HN.out] at this) (by omega)
  clear hany h1 h2
  go_enter Tryz.func156, Tryz.ntmps156
  go_wp2_with fail
  refine (o_still HO.out hix).mono ?_
  rintro e x1 ⟨rfl, hO, -⟩
  replace HO := Hi hO
  clear hO hix
  go_wp2
  clear hne
  go_loopw [5, 6] (fun jv kv wr => ∃ (j k : Nat) (m : List En), k ≤ n ∧ jv = .int .i64 j ∧ kv = .int .i64 k ∧ DI p l m j k ∧ Own w F wr [rowE (.slice (some ⟨g, 0, none⟩) n cap) m]) (fun _ kv _ => n - (intOf kv).toNat)
  case atStart => exact ⟨i, i + 1, l, by omega, rfl, by go_num, HD.out, HO.out⟩
  case round =>
   obtain ⟨j, k, m, hk, rfl, rfl, hD, hO⟩ := hrel
   have HO := Hi hO
   have hjk : j < k := hD.jk
   have HM := Hi (show m.length = n by rw [hD.len, HN.out])
   have HD := Hi hD
   clear hO hD
   by_cases hlt : k < n
   ·
    have hkl : k < l.length := by have := HN.out; omega
    have hmk := HD.out.get hkl
    have HSK := Hi (HD.out.skip (k := k) hkl)
    have HTK := Hi (HD.out.take (k := k) hkl)
    obtain ⟨hkm, hmk⟩ := List.getElem?_eq_some_iff.1 hmk
    have hrw : wr.ownsRow 0 215 5 (.slice (some ⟨g, 0, none⟩) n cap) n (m.flatMap cEn) := by have := HO.out.row 0 rfl; rwa [HM.out] at this
    have yc : ∀ q u, q < 5 → (cEn l[k])[q]? = some u → wr.cell? ⟨g, k * 5 + q, none⟩ = some u := fun q u hq hu => (row_cells hrw).1 _ _ (by rw [flat_getR cEn 5 (fun _ => rfl) m k hkm q hq, hmk]; exact hu)
    clear hmk
    generalize l[k] = x at *
    obtain ⟨nm, kd, ad, to, ex⟩ := x
    have y0 : wr.cell? ⟨g, k * 5, none⟩ = some (.string nm) := yc 0 _ (by decide) rfl
    have y1 : wr.cell? ⟨g, k * 5 + 1, none⟩ = some (.int .i64 kd) := yc 1 _ (by decide) rfl
    have y2 : wr.cell? ⟨g, k * 5 + 2, none⟩ = some (.int .i64 ad) := yc 2 _ (by decide) rfl
    have y3 : wr.cell? ⟨g, k * 5 + 3, none⟩ = some (.string to) := yc 3 _ (by decide) rfl
    have y4 : wr.cell? ⟨g, k * 5 + 4, none⟩ = some (.int .i64 ex) := yc 4 _ (by decide) rfl
    clear yc hkl hkm hrw
    obtain ⟨x21, hx21, bx, hbx, hO⟩ := HO.out.allocE (.cells #[.string ⟨#[]⟩, .int .i64 0, .int .i64 0, .string ⟨#[]⟩, .int .i64 0] 215)
    replace HO := Hi (show Own w F x21 [rowE (.slice (some ⟨g, 0, none⟩) n cap) m, blkR bx (.cells #[.string ⟨#[]⟩, .int .i64 0, .int .i64 0, .string ⟨#[]⟩, .int .i64 0] 215)] from hO)
    clear hO
    obtain ⟨x27, x32, x36, x39, x41, hx27, hx32, hx36, hx39, hx41, k1_0_22, lk1_0_22, k1_1_28, lk1_1_28, k1_2_33, lk1_2_33, k1_3_37, lk1_3_37, k1_4_40, lk1_4_40, hO⟩ := HO.out.steps5 1 rfl (.string nm) (.int .i64 kd) (.int .i64 ad) (.string to) (.int .i64 ex)
    replace HO := Hi (show Own _ _ _ [_, blkR bx (.cells #[.string nm, .int .i64 kd, .int .i64 ad, .string to, .int .i64 ex] 215)] from hO)
    clear hO
    obtain ⟨z1_0, z1_1, z1_2, z1_3, z1_4⟩ := HO.out.c5 1 rfl
    go_wp2_with fail
    refine (o_still HO.out (HP.out _ HO.out.upd ⟨nm, kd, ad, to, ex⟩)).mono ?_
    rintro e xc ⟨rfl, hO, -⟩
    replace HO := Hi hO
    clear hO y0 y1 y2 y3 y4
    clear hx21 hbx k1_0_22 lk1_0_22 hx27 k1_1_28 lk1_1_28 hx32 k1_2_33 lk1_2_33 hx36 k1_3_37 lk1_3_37 hx39 k1_4_40 lk1_4_40 hx41 z1_0 z1_1 z1_2 z1_3 z1_4
    cases hpx : p ⟨nm, kd, ad, to, ex⟩ with
    | true =>
     have HD2 := Hi (HSK.out hpx)
     clear hpx HSK HTK
     go_wp2
     go_roundw
     case rel => exact ⟨j, k + 1, m, by omega, rfl, by go_num, HD2.out, HO.out.take 1⟩
     case measure => simp [intOf]; omega
    | false =>
     have HD2 := Hi (HTK.out hpx)
     clear hpx HSK HTK
     have z1_0 : xc.cell? _ = some (.string nm) := HO.out.cell 1 rfl 0 rfl
     have z1_1 : xc.cell? _ = some (.int .i64 kd) := HO.out.cell 1 rfl 1 rfl
     have z1_2 : xc.cell? _ = some (.int .i64 ad) := HO.out.cell 1 rfl 2 rfl
     have z1_3 : xc.cell? _ = some (.string to) := HO.out.cell 1 rfl 3 rfl
     have z1_4 : xc.cell? _ = some (.int .i64 ex) := HO.out.cell 1 rfl 4 rfl
     have hjm : j < m.length := by have := HM.out; omega
     have hcj : ∀ q u, q < 5 → (cEn m[j])[q]? = some u → (m.flatMap cEn)[j * 5 + q]? = some u := fun q u hq hu => by rw [flat_getR cEn 5 (fun _ => rfl) m j hjm q hq]; exact hu
     have HFS := Hi (flat_set5 m j ⟨nm, kd, ad, to, ex⟩ hjm)
     generalize m[j] = o at hcj
     obtain ⟨onm, okd, oad, oto, oex⟩ := o
     have c0 : (m.flatMap cEn)[j * 5]? = some (.string onm) := hcj 0 _ (by decide) rfl
     have c1 : (m.flatMap cEn)[j * 5 + 1]? = some (.int .i64 okd) := hcj 1 _ (by decide) rfl
     have c2 : (m.flatMap cEn)[j * 5 + 2]? = some (.int .i64 oad) := hcj 2 _ (by decide) rfl
     have c3 : (m.flatMap cEn)[j * 5 + 3]? = some (.string oto) := hcj 3 _ (by decide) rfl
     have c4 : (m.flatMap cEn)[j * 5 + 4]? = some (.int .i64 oex) := hcj 4 _ (by decide) rfl
     have HC := Hi (And.intro c0 (And.intro c1 (And.intro c2 (And.intro c3 c4))))
     obtain ⟨xs, hxs⟩ : ∃ xs, m.flatMap cEn = xs := ⟨_, rfl⟩
     have hO := HO.out
     simp only [rowE, HM.out, hxs] at hO
     rw [hxs] at HC HFS
     clear c0 c1 c2 c3 c4 hcj hxs hjm
     replace HO := Hi (show Own _ _ _ [rowR (.slice (some ⟨g, 0, none⟩) n cap) 215 5 n xs, _] from hO)
     clear hO
     have hrc := row_cells (HO.out.row 0 rfl)
     have g0_0 : xc.cell? ⟨g, j * 5, none⟩ = some (.string onm) := hrc.1 _ _ (HC.out.1)
     have f0_0 : xc.frozen? ⟨g, j * 5, none⟩ = false := hrc.2 _
     have g0_1 : xc.cell? ⟨g, j * 5 + 1, none⟩ = some (.int .i64 okd) := hrc.1 _ _ (HC.out.2.1)
     have f0_1 : xc.frozen? ⟨g, j * 5 + 1, none⟩ = false := hrc.2 _
     have g0_2 : xc.cell? ⟨g, j * 5 + 2, none⟩ = some (.int .i64 oad) := hrc.1 _ _ (HC.out.2.2.1)
     have f0_2 : xc.frozen? ⟨g, j * 5 + 2, none⟩ = false := hrc.2 _
     have g0_3 : xc.cell? ⟨g, j * 5 + 3, none⟩ = some (.string oto) := hrc.1 _ _ (HC.out.2.2.2.1)
     have f0_3 : xc.frozen? ⟨g, j * 5 + 3, none⟩ = false := hrc.2 _
     have g0_4 : xc.cell? ⟨g, j * 5 + 4, none⟩ = some (.int .i64 oex) := hrc.1 _ _ (HC.out.2.2.2.2)
     have f0_4 : xc.frozen? ⟨g, j * 5 + 4, none⟩ = false := hrc.2 _
     clear hrc
     obtain ⟨x42, hx42⟩ : ∃ y, xc.setCell ⟨g, j * 5, none⟩ (.string nm) = y := ⟨_, rfl⟩
     have hO := Own.rowSet HO.out 0 rfl (j * 5) (.string nm)
     rw [hx42] at hO
     replace HO := Hi (show Own _ _ _ [rowR (.slice (some ⟨g, 0, none⟩) n cap) 215 5 n (xs.set (j * 5) (.string nm)), _] from hO)
     clear hO
     have hrc := row_cells (HO.out.row 0 rfl)
     have g1_1 : x42.cell? ⟨g, j * 5 + 1, none⟩ = some (.int .i64 okd) := hrc.1 _ _ (by simp [List.getElem?_set_ne, HC.out.2.1])
     have f1_1 : x42.frozen? ⟨g, j * 5 + 1, none⟩ = false := hrc.2 _
     have g1_2 : x42.cell? ⟨g, j * 5 + 2, none⟩ = some (.int .i64 oad) := hrc.1 _ _ (by simp [List.getElem?_set_ne, HC.out.2.2.1])
     have f1_2 : x42.frozen? ⟨g, j * 5 + 2, none⟩ = false := hrc.2 _
     have g1_3 : x42.cell? ⟨g, j * 5 + 3, none⟩ = some (.string oto) := hrc.1 _ _ (by simp [List.getElem?_set_ne, HC.out.2.2.2.1])
     have f1_3 : x42.frozen? ⟨g, j * 5 + 3, none⟩ = false := hrc.2 _
     have g1_4 : x42.cell? ⟨g, j * 5 + 4, none⟩ = some (.int .i64 oex) := hrc.1 _ _ (by simp [List.getElem?_set_ne, HC.out.2.2.2.2])
     have f1_4 : x42.frozen? ⟨g, j * 5 + 4, none⟩ = false := hrc.2 _
     clear hrc
     obtain ⟨x43, hx43⟩ : ∃ y, x42.setCell ⟨g, j * 5 + 1, none⟩ (.int .i64 kd) = y := ⟨_, rfl⟩
     have hO := Own.rowSet HO.out 0 rfl (j * 5 + 1) (.int .i64 kd)
     rw [hx43] at hO
     replace HO := Hi (show Own _ _ _ [rowR (.slice (some ⟨g, 0, none⟩) n cap) 215 5 n ((xs.set (j * 5) (.string nm)).set (j * 5 + 1) (.int .i64 kd)), _] from hO)
     clear hO
     have hrc := row_cells (HO.out.row 0 rfl)
     have g2_2 : x43.cell? ⟨g, j * 5 + 2, none⟩ = some (.int .i64 oad) := hrc.1 _ _ (by simp [List.getElem?_set_ne, HC.out.2.2.1])
     have f2_2 : x43.frozen? ⟨g, j * 5 + 2, none⟩ = false := hrc.2 _
     have g2_3 : x43.cell? ⟨g, j * 5 + 3, none⟩ = some (.string oto) := hrc.1 _ _ (by simp [List.getElem?_set_ne, HC.out.2.2.2.1])
     have f2_3 : x43.frozen? ⟨g, j * 5 + 3, none⟩ = false := hrc.2 _
     have g2_4 : x43.cell? ⟨g, j * 5 + 4, none⟩ = some (.int .i64 oex) := hrc.1 _ _ (by simp [List.getElem?_set_ne, HC.out.2.2.2.2])
     have f2_4 : x43.frozen? ⟨g, j * 5 + 4, none⟩ = false := hrc.2 _
     clear hrc
     obtain ⟨x44, hx44⟩ : ∃ y, x43.setCell ⟨g, j * 5 + 2, none⟩ (.int .i64 ad) = y := ⟨_, rfl⟩
     have hO := Own.rowSet HO.out 0 rfl (j * 5 + 2) (.int .i64 ad)
     rw [hx44] at hO
     replace HO := Hi (show Own _ _ _ [rowR (.slice (some ⟨g, 0, none⟩) n cap) 215 5 n (((xs.set (j * 5) (.string nm)).set (j * 5 + 1) (.int .i64 kd)).set (j * 5 + 2) (.int .i64 ad)), _] from hO)
     clear hO
     have hrc := row_cells (HO.out.row 0 rfl)
     have g3_3 : x44.cell? ⟨g, j * 5 + 3, none⟩ = some (.string oto) := hrc.1 _ _ (by simp [List.getElem?_set_ne, HC.out.2.2.2.1])
     have f3_3 : x44.frozen? ⟨g, j * 5 + 3, none⟩ = false := hrc.2 _
     have g3_4 : x44.cell? ⟨g, j * 5 + 4, none⟩ = some (.int .i64 oex) := hrc.1 _ _ (by simp [List.getElem?_set_ne, HC.out.2.2.2.2])
     have f3_4 : x44.frozen? ⟨g, j * 5 + 4, none⟩ = false := hrc.2 _
     clear hrc
     obtain ⟨x45, hx45⟩ : ∃ y, x44.setCell ⟨g, j * 5 + 3, none⟩ (.string to) = y := ⟨_, rfl⟩
     have hO := Own.rowSet HO.out 0 rfl (j * 5 + 3) (.string to)
     rw [hx45] at hO
     replace HO := Hi (show Own _ _ _ [rowR (.slice (some ⟨g, 0, none⟩) n cap) 215 5 n ((((xs.set (j * 5) (.string nm)).set (j * 5 + 1) (.int .i64 kd)).set (j * 5 + 2) (.int .i64 ad)).set (j * 5 + 3) (.string to)), _] from hO)
     clear hO
     have hrc := row_cells (HO.out.row 0 rfl)
     have g4_4 : x45.cell? ⟨g, j * 5 + 4, none⟩ = some (.int .i64 oex) := hrc.1 _ _ (by simp [List.getElem?_set_ne, HC.out.2.2.2.2])
     have f4_4 : x45.frozen? ⟨g, j * 5 + 4, none⟩ = false := hrc.2 _
     clear hrc
     obtain ⟨x46, hx46⟩ : ∃ y, x45.setCell ⟨g, j * 5 + 4, none⟩ (.int .i64 ex) = y := ⟨_, rfl⟩
     have hO := Own.rowSet HO.out 0 rfl (j * 5 + 4) (.int .i64 ex)
     rw [hx46] at hO
     replace HO := Hi (show Own _ _ _ [rowR (.slice (some ⟨g, 0, none⟩) n cap) 215 5 n (((((xs.set (j * 5) (.string nm)).set (j * 5 + 1) (.int .i64 kd)).set (j * 5 + 2) (.int .i64 ad)).set (j * 5 + 3) (.string to)).set (j * 5 + 4) (.int .i64 ex)), _] from hO)
     clear hO
     have hO := HO.out
     rw [HFS.out] at hO
     have e1 : rowR (.slice (some ⟨g, 0, none⟩) n cap) 215 5 n ((m.set j ⟨nm, kd, ad, to, ex⟩).flatMap cEn) = rowE (.slice (some ⟨g, 0, none⟩) n cap) (m.set j ⟨nm, kd, ad, to, ex⟩) := by
      show _ = rowR _ _ _ _ _
      rw [List.length_set, HM.out]
     rw [e1] at hO
     replace HO := Hi (show Own _ _ _ [rowE (.slice (some ⟨g, 0, none⟩) n cap) (m.set j ⟨nm, kd, ad, to, ex⟩), _] from hO)
     clear hO e1
     go_wp2
     go_roundw
     case rel => exact ⟨j + 1, k + 1, m.set j ⟨nm, kd, ad, to, ex⟩, by omega, by go_num, by go_num, HD2.out, HO.out.take 1⟩
     case measure => simp [intOf]; omega
   ·
    have hke : k = n := by omega
    subst hke
    have hjm : j ≤ m.length := by have := HM.out; omega
    have HTK := Hi (show m.take j = l.filter fun x => !p x by rw [HD.out.done, ← HN.out, List.take_length])
    have hrc := row_cells (show wr.ownsRow 0 215 5 (.slice (some ⟨g, 0, none⟩) k cap) k (m.flatMap cEn) by have := HO.out.row 0 rfl; rwa [HM.out] at this)
    have hml : (m.flatMap cEn).length = k * 5 := by have := (HO.out.row 0 rfl).1; rwa [HM.out] at this
    obtain ⟨d, hd⟩ : ∃ d, k - j = d := ⟨_, rfl⟩
    have hcl : ∀ ty c, (Builtin.clear_ #[197] ty #[.slice (some ⟨g, j * 5, none⟩) d c]).run Tryz.prog wr = .ok (.tuple #[]) (wr.setCells g (j * 5) (Builtin.zeroCells (.agg #[.string ⟨#[]⟩, .int .i64 0, .int .i64 0, .string ⟨#[]⟩, .int .i64 0] : Value).cells d).toList) := fun ty c =>
     run_clear_K wr 197 215 ty _ Tryz.underlying197 zeroEn (fun n => zeroCells_one (fun i hi => by
      have hi5 : i < 5 := hi
      obtain rfl | rfl | rfl | rfl | rfl : i = 0 ∨ i = 1 ∨ i = 2 ∨ i = 3 ∨ i = 4 := by omega
      all_goals rfl)) g (j * 5) d c (by omega)
      (fun q hq => by
       have hq5 : q < d * 5 := hq
       rw [hrc.1 (j * 5 + q) _ (List.getElem?_eq_getElem (by rw [hml]; omega))]; rfl) (fun q _ => hrc.2 _)
    have hjc := row_cap (show wr.ownsRow 0 215 5 (.slice (some ⟨g, 0, none⟩) k cap) k (m.flatMap cEn) by have := HO.out.row 0 rfl; rwa [HM.out] at this)
    have hj1 : j ≤ cap := by omega
    have hj2 : ¬ cap = j := by omega
    have HO2 := Hi (del_end HO.out HM.out (show j ≤ k by omega) HTK.out (Builtin.zeroCells (.agg #[.string ⟨#[]⟩, .int .i64 0, .int .i64 0, .string ⟨#[]⟩, .int .i64 0] : Value).cells d).toList)
    clear hrc hml hjm hjc
    go_wp2
    go_ret
    exact ⟨_, rfl, HO2.out, HO2.out.size⟩
theorem o_stepE {f : FuncId} {args : Array Value} {w0 w : World} {D : Nat → Prop} {L : List Res} {R : Res} {α : Type} {Q : α → Value → Prop} {R' : α → Res} (h : Own w0 D w L) (hi : L[i]? = some R)
  (hc : ∀ F, R.P w F → (∀ b, F b → D b ∨ w0.heap.size ≤ b) → Calls P f args w fun e w' => ∃ x v, Q x v ∧ e = .returned v ∧ Own w F w' [R' x] ∧ w.heap.size ≤ w'.heap.size) : Calls P f args w fun e w' => ∃ x v, Q x v ∧ e = .returned v ∧ Own w0 D w' (L.set i (R' x)) ∧ w.heap.size ≤ w'.heap.size := by
 obtain ⟨F, h1, h2, h3⟩ := h.step hi
 refine (hc F h1 h2).mono fun e w' ⟨x, v, hq, he, ho, hs⟩ => ?_
 obtain ⟨F', g1, g2, _⟩ := ho.step (i := 0) rfl
 exact ⟨x, v, hq, he, h3 g1 g2 ho.upd, hs⟩
theorem removeP_o {w0 w : World} {D : Nat → Prop} {L : List Res} {c : Nat} {l : List En} (p : En → Bool) (b1 b2 : Nat) (h : Own w0 D w L) (i : Nat) (hi : L[i]? = some (resC c l)) (hp : ∀ F, (resC c l).P w F → (∀ b, F b → D b ∨ w0.heap.size ≤ b) → ∀ w', Upd F w w' → ∀ x : En, Calls Tryz.prog 173 #[enV x, .pointer (some ⟨b1, 0, none⟩), .pointer (some ⟨b2, 0, none⟩)] w' fun e w'' => e = .returned (.bool (p x)) ∧ Below w'.heap.size w' w'') (hl : l.length ≤ 1000) :
  Calls Tryz.prog 113 #[.pointer (some ⟨c, 0, none⟩), .func (.func 173) #[] #[.pointer (some ⟨b1, 0, none⟩), .pointer (some ⟨b2, 0, none⟩)]] w (OPost w0 D (L.set i (resC c (l.filter fun x => !p x))) (.tuple #[]) w) := by
 obtain ⟨G, hG, hGD, hback⟩ := h.step hi
 have HP := Hi (hp G hG hGD)
 have HL := Hi hl
 obtain ⟨v, hO⟩ := openC' (Own.one hG)
 have HO := Hi (show Own w G w [blkC c v, rowE v l] from hO)
 have HB := Hi (show ∀ w', Own w G w' [resC c (l.filter fun x => !p x)] → Own w0 D w' (L.set i (resC c (l.filter fun x => !p x))) from fun w' ho => by
  obtain ⟨F', g1, g2, _⟩ := ho.step (i := 0) rfl
  exact hback g1 g2 ho.upd)
 clear h hi hp hl hO hG hGD hback
 have c1 : w.cell? ⟨c, 0, none⟩ = some v := HO.out.cell 0 rfl 0 rfl
 have hdel := o_stepE (Q := fun (v' : Value) u => u = v') (R' := fun v' => rowE v' (l.filter fun x => !p x)) HO.out (i := 1) rfl (fun Fr hFr hFD => (delP l p b1 b2 (Own.one hFr) (fun w' hu x => HP.out w' (hu.mono fun b hb hf => (hFD b hf).elim id (fun h => absurd h (by omega))) x) HL.out).mono fun e w' ⟨v', he, ho, hs⟩ => ⟨v', v', rfl, he, ho, hs⟩)
 go_enter Tryz.func113, Tryz.ntmps113
 go_wp2_with fail
 refine hdel.mono ?_
 rintro e x1 ⟨v', u, rfl, rfl, hO, hs⟩
 have HS := Hi hs
 replace HO := Hi (show Own _ _ _ [_, rowE u (l.filter fun x => !p x)] from hO)
 obtain ⟨ua, uc, hu⟩ := row_shape (HO.out.row 1 rfl)
 obtain ⟨un, hun⟩ : ∃ un, (l.filter fun x => !p x).length = un := ⟨_, rfl⟩
 rw [hun] at hu
 subst hu
 clear hdel hO hs c1 hun
 have c1 : x1.cell? ⟨c, 0, none⟩ = some v := HO.out.cell 0 rfl 0 rfl
 have f1 := HO.out.frz 0 rfl 0
 obtain ⟨x2, hx2, hO⟩ := HO.out.setE 0 rfl 0 (.slice ua un uc)
 have HO2 := Hi (shutC' (show Own w G x2 [blkC c (.slice ua un uc), rowE (.slice ua un uc) (l.filter fun x => !p x)] from hO))
 clear hO
 go_wp2
 go_end0
 exact ⟨rfl, HB.out _ HO2.out, HO2.out.size⟩
theorem removeN_o {w0 w : World} {D : Nat → Prop} {L : List Res} {c : Nat} {l : List En} (p : En → Bool) (b1 : Nat) (h : Own w0 D w L) (i : Nat) (hi : L[i]? = some (resC c l)) (hp : ∀ F, (resC c l).P w F → (∀ b, F b → D b ∨ w0.heap.size ≤ b) → ∀ w', Upd F w w' → ∀ x : En, Calls Tryz.prog 169 #[enV x, .pointer (some ⟨b1, 0, none⟩)] w' fun e w'' => e = .returned (.bool (p x)) ∧ Below w'.heap.size w' w'') (hl : l.length ≤ 1000) :
  Calls Tryz.prog 113 #[.pointer (some ⟨c, 0, none⟩), .func (.func 169) #[] #[.pointer (some ⟨b1, 0, none⟩)]] w (OPost w0 D (L.set i (resC c (l.filter fun x => !p x))) (.tuple #[]) w) := by
 obtain ⟨G, hG, hGD, hback⟩ := h.step hi
 have HP := Hi (hp G hG hGD)
 have HL := Hi hl
 obtain ⟨v, hO⟩ := openC' (Own.one hG)
 have HO := Hi (show Own w G w [blkC c v, rowE v l] from hO)
 have HB := Hi (show ∀ w', Own w G w' [resC c (l.filter fun x => !p x)] → Own w0 D w' (L.set i (resC c (l.filter fun x => !p x))) from fun w' ho => by
  obtain ⟨F', g1, g2, _⟩ := ho.step (i := 0) rfl
  exact hback g1 g2 ho.upd)
 clear h hi hp hl hO hG hGD hback
 have c1 : w.cell? ⟨c, 0, none⟩ = some v := HO.out.cell 0 rfl 0 rfl
 have hdel := o_stepE (Q := fun (v' : Value) u => u = v') (R' := fun v' => rowE v' (l.filter fun x => !p x)) HO.out (i := 1) rfl (fun Fr hFr hFD => (delN l p b1 (Own.one hFr) (fun w' hu x => HP.out w' (hu.mono fun b hb hf => (hFD b hf).elim id (fun h => absurd h (by omega))) x) HL.out).mono fun e w' ⟨v', he, ho, hs⟩ => ⟨v', v', rfl, he, ho, hs⟩)
 go_enter Tryz.func113, Tryz.ntmps113
 go_wp2_with fail
 refine hdel.mono ?_
 rintro e x1 ⟨v', u, rfl, rfl, hO, hs⟩
 have HS := Hi hs
 replace HO := Hi (show Own _ _ _ [_, rowE u (l.filter fun x => !p x)] from hO)
 obtain ⟨ua, uc, hu⟩ := row_shape (HO.out.row 1 rfl)
 obtain ⟨un, hun⟩ : ∃ un, (l.filter fun x => !p x).length = un := ⟨_, rfl⟩
 rw [hun] at hu
 subst hu
 clear hdel hO hs c1 hun
 have c1 : x1.cell? ⟨c, 0, none⟩ = some v := HO.out.cell 0 rfl 0 rfl
 have f1 := HO.out.frz 0 rfl 0
 obtain ⟨x2, hx2, hO⟩ := HO.out.setE 0 rfl 0 (.slice ua un uc)
 have HO2 := Hi (shutC' (show Own w G x2 [blkC c (.slice ua un uc), rowE (.slice ua un uc) (l.filter fun x => !p x)] from hO))
 clear hO
 go_wp2
 go_end0
 exact ⟨rfl, HB.out _ HO2.out, HO2.out.size⟩
theorem removeT_o {w0 w : World} {D : Nat → Prop} {L : List Res} {c : Nat} {l : List En} (p : En → Bool) (b1 : Nat) (h : Own w0 D w L) (i : Nat) (hi : L[i]? = some (resC c l)) (hp : ∀ F, (resC c l).P w F → (∀ b, F b → D b ∨ w0.heap.size ≤ b) → ∀ w', Upd F w w' → ∀ x : En, Calls Tryz.prog 114 #[enV x, .pointer (some ⟨b1, 0, none⟩)] w' fun e w'' => e = .returned (.bool (p x)) ∧ Below w'.heap.size w' w'') (hl : l.length ≤ 1000) :
  Calls Tryz.prog 113 #[.pointer (some ⟨c, 0, none⟩), .func (.func 114) #[] #[.pointer (some ⟨b1, 0, none⟩)]] w (OPost w0 D (L.set i (resC c (l.filter fun x => !p x))) (.tuple #[]) w) := by
 obtain ⟨G, hG, hGD, hback⟩ := h.step hi
 have HP := Hi (hp G hG hGD)
 have HL := Hi hl
 obtain ⟨v, hO⟩ := openC' (Own.one hG)
 have HO := Hi (show Own w G w [blkC c v, rowE v l] from hO)
 have HB := Hi (show ∀ w', Own w G w' [resC c (l.filter fun x => !p x)] → Own w0 D w' (L.set i (resC c (l.filter fun x => !p x))) from fun w' ho => by
  obtain ⟨F', g1, g2, _⟩ := ho.step (i := 0) rfl
  exact hback g1 g2 ho.upd)
 clear h hi hp hl hO hG hGD hback
 have c1 : w.cell? ⟨c, 0, none⟩ = some v := HO.out.cell 0 rfl 0 rfl
 have hdel := o_stepE (Q := fun (v' : Value) u => u = v') (R' := fun v' => rowE v' (l.filter fun x => !p x)) HO.out (i := 1) rfl (fun Fr hFr hFD => (delT l p b1 (Own.one hFr) (fun w' hu x => HP.out w' (hu.mono fun b hb hf => (hFD b hf).elim id (fun h => absurd h (by omega))) x) HL.out).mono fun e w' ⟨v', he, ho, hs⟩ => ⟨v', v', rfl, he, ho, hs⟩)
 go_enter Tryz.func113, Tryz.ntmps113
 go_wp2_with fail
 refine hdel.mono ?_
 rintro e x1 ⟨v', u, rfl, rfl, hO, hs⟩
 have HS := Hi hs
 replace HO := Hi (show Own _ _ _ [_, rowE u (l.filter fun x => !p x)] from hO)
 obtain ⟨ua, uc, hu⟩ := row_shape (HO.out.row 1 rfl)
 obtain ⟨un, hun⟩ : ∃ un, (l.filter fun x => !p x).length = un := ⟨_, rfl⟩
 rw [hun] at hu
 subst hu
 clear hdel hO hs c1 hun
 have c1 : x1.cell? ⟨c, 0, none⟩ = some v := HO.out.cell 0 rfl 0 rfl
 have f1 := HO.out.frz 0 rfl 0
 obtain ⟨x2, hx2, hO⟩ := HO.out.setE 0 rfl 0 (.slice ua un uc)
 have HO2 := Hi (shutC' (show Own w G x2 [blkC c (.slice ua un uc), rowE (.slice ua un uc) (l.filter fun x => !p x)] from hO))
 clear hO
 go_wp2
 go_end0
 exact ⟨rfl, HB.out _ HO2.out, HO2.out.size⟩
theorem run_bdC0 (w : World) : (Instr.build 201 #[]).run Tryz.prog w = .ok (.agg #[.slice none 0 0]) w := by kernel_rfl
def CNewO (w0 : World) (D : Nat → Prop) (L : List Res) (w : World) (e : Ending) (w' : World) : Prop := ∃ c, e = .returned (.pointer (some ⟨c, 0, none⟩)) ∧ Own w0 D w' (L ++ [resC c []]) ∧ w.heap.size ≤ w'.heap.size
section
variable {w0 w : World} {D : Nat → Prop} {L : List Res} {c : Nat} {l : List En}
theorem cnew_o (h : Own w0 D w L) : Calls Tryz.prog 55 #[] w (CNewO w0 D L w) := by
 have HO := Hi h
 clear h
 have rb := run_bdC0
 obtain ⟨x1, hx1⟩ : ∃ y, w.alloc (.cells #[.slice none 0 0] 201) = y := ⟨_, rfl⟩
 obtain ⟨c, hc⟩ : ∃ y, w.heap.size = y := ⟨_, rfl⟩
 have hO := (HO.out.alloc (.cells #[.slice none 0 0] 201)).rowNew 215 5
 rw [hx1, hc] at hO
 have HO2 := Hi (show Own w0 D x1 (L ++ [resC c []]) from Own.rot (L := [resC c []]) (shutC' (l := []) (v := .slice none 0 0) (Own.rot (L := L) (by simpa using hO))))
 have HS := Hi (show w.heap.size ≤ x1.heap.size by rw [← hx1]; simp)
 clear hO
 go_enter Tryz.func55, Tryz.ntmps55
 go_wp2
 go_ret
 exact ⟨c, rfl, HO2.out, HS.out⟩
end
theorem setL_get : ∀ (us xs : List Value) (o : Nat), o + us.length ≤ xs.length → setL xs o us = xs.take o ++ us ++ xs.drop (o + us.length)
 | [], xs, o, h => by simp [setL]
 | u :: us, xs, o, h => by
  simp only [List.length_cons] at h
  rw [setL, setL_get us _ _ (by simp; omega)]
  rw [List.take_set, List.drop_set_of_lt (by omega)]
  have h1 : (xs.take (o + 1)).set o u = xs.take o ++ [u] := by
   rw [List.take_succ_eq_append_getElem (by omega)]
   rw [List.set_append_right _ _ (by simp; omega)]
   simp [Nat.min_eq_left (show o ≤ xs.length by omega)]
  rw [h1]
  simp [Nat.add_assoc, Nat.add_comm 1]
theorem infoEn : (Tryz.prog.info? 215).map (fun i => (i.zero, i.size, i.bytes)) = some (some (.agg #[.string ⟨#[]⟩, .int .i64 0, .int .i64 0, .string ⟨#[]⟩, .int .i64 0]), 5, 56) := by kernel_rfl
theorem cEn_one (l : List En) : ∀ u ∈ l.flatMap cEn, u.oneCell' = true := by
 intro u hu
 obtain ⟨r, _, hr⟩ := List.mem_flatMap.1 hu
 simp [cEn] at hr
 rcases hr with h | h | h | h | h <;> (subst h; rfl)
theorem flat_drop (l : List En) (j : Nat) : (l.drop j).flatMap cEn = (l.flatMap cEn).drop (j * 5) := by
 induction j generalizing l with
 | zero => simp
 | succ j ih =>
  cases l with
  | nil => simp
  | cons x l =>
   simp only [List.drop_succ_cons, List.flatMap_cons]
   rw [ih, Nat.add_mul, Nat.one_mul, Nat.add_comm, List.drop_append]
   simp [cEn]
theorem erase_flat {l : List En} (hi : i < l.length) : (l.eraseIdx i).flatMap cEn = (l.flatMap cEn).take (i * 5) ++ (l.flatMap cEn).drop ((i + 1) * 5) := by
 rw [List.eraseIdx_eq_take_drop_succ, List.flatMap_append, flat_take cEn 5 (fun _ => rfl), flat_drop]
theorem dele_end {w0 w : World} {F : Nat → Prop} {g n cap i : Nat} {l : List En} (h : Own w0 F w [rowE (.slice (some ⟨g, 0, none⟩) n cap) l]) (hl : l.length = n) (hi : i < n) (zs : List Value) :
  Own w0 F ((w.setCells g (i * 5) ((l.drop (i + 1)).flatMap cEn)).setCells g ((n - 1) * 5) zs) [rowE (.slice (some ⟨g, 0, none⟩) (n - 1) cap) (l.eraseIdx i)] := by
 have h1 : Own w0 F w [rowR (.slice (some ⟨g, 0, none⟩) n cap) 215 5 n (l.flatMap cEn)] := by rw [← hl]; rw [← hl] at h; exact h
 have hfl : (l.flatMap cEn).length = n * 5 := (h1.row 0 rfl).1
 have h2 := Own.rowSets 0 ((l.drop (i + 1)).flatMap cEn) (i * 5) h1 rfl
 have h3 := Own.rowSets 0 zs ((n - 1) * 5) h2 rfl
 have h4 := Own.rowCut (n := n) h3 0 rfl (n - 1) (by omega)
 have hdl : ((l.drop (i + 1)).flatMap cEn).length = (n - 1 - i) * 5 := by rw [flat_drop, List.length_drop, hfl]; omega
 have e : (setL (l.flatMap cEn) (i * 5) ((l.drop (i + 1)).flatMap cEn)).take ((n - 1) * 5) = (l.eraseIdx i).flatMap cEn := by
  rw [setL_get _ _ _ (by rw [hdl, hfl]; omega), erase_flat (by omega), ← flat_drop]
  rw [List.take_append_of_le_length (by rw [List.length_append, List.length_take, hdl, hfl]; omega)]
  rw [List.take_of_length_le (by rw [List.length_append, List.length_take, hdl, hfl]; omega)]
 rw [setL_take _ _ _ _ (Nat.le_refl _), e] at h4
 have hle : (l.eraseIdx i).length = n - 1 := by rw [List.length_eraseIdx_of_lt (by omega)]; omega
 show Own w0 F _ [rowR _ _ _ _ _]
 rw [hle]
 exact h4
theorem ad_mk (b o j : Nat) : (⟨b, o, none⟩ : Addr).add j = ⟨b, o + j, none⟩ := by
 unfold Addr.add
 split
 ·
  rename_i h; have : j = 0 := by simpa using h
  subst this; rfl
 ·
  rfl
theorem dele_app {w0 w5 : World} {F : Nat → Prop} {g n cap i : Nat} {l : List En} (h : Own w0 F w5 [rowR (.slice (some ⟨g, 0, none⟩) n cap) 215 5 n (l.flatMap cEn)]) (hn : l.length = n) (hi : i < n) (hcap : n ≤ cap) (ty : TypeId) (a : Nat) (c : Nat) (ha : a = (i + 1) * 5 ∨ n = i + 1) :
  (Builtin.append_ #[197, 197] ty #[.slice (some ⟨g, 0, none⟩) i cap, .slice (some ⟨g, a, none⟩) (n - (i + 1)) c]).run Tryz.prog w5 = .ok (.slice (some ⟨g, 0, none⟩) (n - 1) cap) (w5.setCells g (i * 5) ((l.drop (i + 1)).flatMap cEn)) := by
 obtain ⟨i0, hi0, hz0, hz1, hz2⟩ := info_parts infoEn
 have hrc := row_cells (h.row 0 rfl)
 have hfl : (l.flatMap cEn).length = n * 5 := (h.row 0 rfl).1
 have hdl : ((l.drop (i + 1)).flatMap cEn).length = (n - (i + 1)) * 5 := by rw [flat_drop, List.length_drop, hfl]; omega
 have hr := run_append_room_cells (P := Tryz.prog) w5 197 ty 215 i0 Tryz.underlying197 hi0 g 0 i cap ⟨g, a, none⟩ (n - (i + 1)) c ((l.drop (i + 1)).flatMap cEn) (by rw [hdl, hz1]) (fun q u hq => by
  rcases ha with rfl | ha
  ·
   rw [ad_mk]
   refine hrc.1 _ _ ?_
   rw [flat_drop, List.getElem?_drop] at hq
   exact hq
  ·
   rw [List.getElem?_eq_none (by rw [hdl, ha]; simp)] at hq; cases hq) (cEn_one _) (by omega) (fun q hq => by
  rw [hdl] at hq
  rw [hz1, hrc.1 (0 + i * 5 + q) _ (List.getElem?_eq_getElem (by rw [hfl]; omega))]; rfl) (fun q _ => hrc.2 _)
 rw [hz1, Nat.zero_add, show i + (n - (i + 1)) = n - 1 by omega] at hr
 exact hr
theorem dele_clr {w0 x6 : World} {F : Nat → Prop} {g n cap : Nat} {xs : List Value} (h : Own w0 F x6 [rowR (.slice (some ⟨g, 0, none⟩) n cap) 215 5 n xs]) (hn : 0 < n) (ty : TypeId) (c : Nat) :
  (Builtin.clear_ #[197] ty #[.slice (some ⟨g, (n - 1) * 5, none⟩) 1 c]).run Tryz.prog x6 = .ok (.tuple #[]) (x6.setCells g ((n - 1) * 5) (Builtin.zeroCells (.agg #[.string ⟨#[]⟩, .int .i64 0, .int .i64 0, .string ⟨#[]⟩, .int .i64 0] : Value).cells 1).toList) := by
 have hrc := row_cells (h.row 0 rfl)
 have hml : xs.length = n * 5 := (h.row 0 rfl).1
 exact run_clear_K x6 197 215 ty _ Tryz.underlying197 zeroEn (fun n => zeroCells_one (fun i hi => by
  have hi5 : i < 5 := hi
  obtain rfl | rfl | rfl | rfl | rfl : i = 0 ∨ i = 1 ∨ i = 2 ∨ i = 3 ∨ i = 4 := by omega
  all_goals rfl)) g ((n - 1) * 5) 1 c (by omega)
  (fun q hq => by
   have hq5 : q < 1 * 5 := hq
   rw [hrc.1 ((n - 1) * 5 + q) _ (List.getElem?_eq_getElem (by rw [hml]; omega))]; rfl) (fun q _ => hrc.2 _)
theorem delete1 {w : World} {F : Nat → Prop} {g n cap i : Nat} (l : List En) (h : Own w F w [rowE (.slice (some ⟨g, 0, none⟩) n cap) l]) (hn : l.length = n) (hi : i < n) (hl : n ≤ 1000) :
  Calls Tryz.prog 227 #[.slice (some ⟨g, 0, none⟩) n cap, .int .i64 i, .int .i64 ((i : Int) + 1)] w (DelO F (l.eraseIdx i) w) := by
 have HO := Hi h
 have HN := Hi hn
 have hcap := row_cap (show w.ownsRow 0 215 5 (.slice (some ⟨g, 0, none⟩) n cap) n (l.flatMap cEn) by have := h.row 0 rfl; rwa [hn] at this)
 clear h hn
 have hne : ((i : Int) == (i : Int) + 1) = false := by simp; omega
 obtain ⟨d, rfl⟩ : ∃ d, n = i + 1 + d := ⟨n - (i + 1), by omega⟩
 by_cases hce : cap = i + 1
 ·
  obtain rfl : d = 0 := by omega
  subst hce
  simp only [Nat.add_zero] at HO HN hcap hi hl ⊢
  go_enter Tryz.func227, Tryz.ntmps227
  go_wp2
  refine wp_region_R 6 (by kernel_rfl) (by kernel_rfl) ?_
  simp only [List.take, List.drop]
  iterate 6 (first | (refine wpR_want (by kernel_rfl) rfl rfl ?_; intro K hK; go_big_quiet_op; go_big_quiet_on) | (refine wpR_is (by kernel_rfl) rfl _ (fun w _ => rfl) ?_; simp only [Act.put, l_T, l_S, l_Z]))
  refine wpR_nil (by kernel_rfl) (by simp) ?_
  rintro w5 hb5
  simp only [exAll, List.drop]
  have HO5 := Hi (HO.out.stay hb5)
  clear hb5
  have H1 := Hi (show Own w F w5 [rowR (.slice (some ⟨g, 0, none⟩) (i + 1) (i + 1)) 215 5 (i + 1) (l.flatMap cEn)] by have := HO5.out; simp only [rowE, HN.out] at this; exact this)
  have hap := fun ty => dele_app H1.out HN.out hi hcap ty 0 0 (.inr rfl)
  have H6 := Hi (Own.rowSets 0 ((l.drop (i + 1)).flatMap cEn) (i * 5) H1.out rfl)
  obtain ⟨x6, hx6⟩ : ∃ x, w5.setCells g (i * 5) ((l.drop (i + 1)).flatMap cEn) = x := ⟨_, rfl⟩
  rw [hx6] at hap H6
  have hcl := dele_clr H6.out (by omega)
  have HE := Hi (dele_end HO5.out HN.out hi (Builtin.zeroCells (.agg #[.string ⟨#[]⟩, .int .i64 0, .int .i64 0, .string ⟨#[]⟩, .int .i64 0] : Value).cells 1).toList)
  rw [hx6] at HE
  rw [show i + 1 - 1 = i by omega] at hcl HE
  simp only [show i + 1 - 1 = i by omega, show i + 1 - (i + 1) = 0 by omega] at hap
  clear hx6
  refine wpList_plain rfl fun K hK => wp_append_run (s := .tmp 22) (x := .tmp 25) (t := 197) rfl rfl rfl (hap _) (hK _ _ ?_)
  clear hap
  go_wp2
  go_ret
  exact ⟨_, rfl, HE.out, HE.out.size⟩
 ·
  go_enter Tryz.func227, Tryz.ntmps227
  go_wp2
  refine wp_region_R 6 (by kernel_rfl) (by kernel_rfl) ?_
  simp only [List.take, List.drop]
  iterate 6 (first | (refine wpR_want (by kernel_rfl) rfl rfl ?_; intro K hK; go_big_quiet_op; go_big_quiet_on) | (refine wpR_is (by kernel_rfl) rfl _ (fun w _ => rfl) ?_; simp only [Act.put, l_T, l_S, l_Z]))
  refine wpR_nil (by kernel_rfl) (by simp) ?_
  rintro w5 hb5
  simp only [exAll, List.drop]
  have HO5 := Hi (HO.out.stay hb5)
  clear hb5
  have H1 := Hi (show Own w F w5 [rowR (.slice (some ⟨g, 0, none⟩) (i + 1 + d) cap) 215 5 (i + 1 + d) (l.flatMap cEn)] by have := HO5.out; simp only [rowE, HN.out] at this; exact this)
  have hap := fun ty c => dele_app H1.out HN.out hi hcap ty ((i + 1) * 5) c (.inl rfl)
  have H6 := Hi (Own.rowSets 0 ((l.drop (i + 1)).flatMap cEn) (i * 5) H1.out rfl)
  obtain ⟨x6, hx6⟩ : ∃ x, w5.setCells g (i * 5) ((l.drop (i + 1)).flatMap cEn) = x := ⟨_, rfl⟩
  rw [hx6] at hap H6
  have hcl := dele_clr H6.out (by omega)
  have HE := Hi (dele_end HO5.out HN.out hi (Builtin.zeroCells (.agg #[.string ⟨#[]⟩, .int .i64 0, .int .i64 0, .string ⟨#[]⟩, .int .i64 0] : Value).cells 1).toList)
  rw [hx6] at HE
  rw [show i + 1 + d - 1 = i + d by omega] at hcl HE
  simp only [show i + 1 + d - 1 = i + d by omega, show i + 1 + d - (i + 1) = d by omega] at hap
  clear hx6
  refine wpList_plain rfl fun K hK => wp_append_run (s := .tmp 22) (x := .tmp 25) (t := 197) rfl rfl rfl (hap _ _) (hK _ _ ?_)
  clear hap
  have hc2 : ∀ ty c, (Builtin.clear_ #[197] ty #[.slice (some ⟨g, (i + d) * 5, none⟩) (i + 1 + d - (i + d)) c]).run Tryz.prog x6 = .ok (.tuple #[]) (x6.setCells g ((i + d) * 5) (Builtin.zeroCells (.agg #[.string ⟨#[]⟩, .int .i64 0, .int .i64 0, .string ⟨#[]⟩, .int .i64 0] : Value).cells 1).toList) := by rw [show i + 1 + d - (i + d) = 1 by omega]; exact hcl
  clear hcl
  go_wp2
  go_ret
  exact ⟨_, rfl, HE.out, HE.out.size⟩
def leastTo (l : List En) : Nat → Nat
 | 0 => 0
 | k + 1 => if (l.getD k ⟨⟨#[]⟩, 0, 0, ⟨#[]⟩, 0⟩).ex < (l.getD (leastTo l k) ⟨⟨#[]⟩, 0, 0, ⟨#[]⟩, 0⟩).ex then k else leastTo l k
def evictF (l : List En) : List En := l.eraseIdx (leastTo l l.length)
theorem leastTo_lt {l : List En} (h : 0 < l.length) : ∀ k, k ≤ l.length → leastTo l k < l.length
 | 0, _ => h
 | k + 1, hk => by
  have := leastTo_lt h k (by omega)
  simp only [leastTo]; split <;> omega
theorem getD_eq {l : List En} {k : Nat} (h : k < l.length) (d : En) : l.getD k d = l[k] := by simp [List.getD_eq_getElem?_getD, List.getElem?_eq_getElem h]
theorem evict_o {w0 w : World} {D : Nat → Prop} {L : List Res} {c : Nat} {l : List En} (h : Own w0 D w L) (i : Nat) (hi : L[i]? = some (resC c l)) (h0 : 0 < l.length) (hl : l.length ≤ 1000) :
  Calls Tryz.prog 203 #[.pointer (some ⟨c, 0, none⟩)] w (OPost w0 D (L.set i (resC c (evictF l))) (.tuple #[]) w) := by
 refine o_one h hi fun D HO0 => ?_
 clear h hi
 obtain ⟨v, hO⟩ := openC' HO0
 have HO := Hi (show Own w D w [blkC c v, rowE v l] from hO)
 have HLL := Hi (leastTo_lt h0)
 clear HO0 hO
 obtain ⟨a, cap, hv⟩ := row_shape (HO.out.row 1 rfl)
 obtain ⟨n, hn⟩ : ∃ n, l.length = n := ⟨_, rfl⟩
 have HN := Hi hn
 rw [hn] at hv h0 hl
 have hrw : w.ownsRow 0 215 5 v n (l.flatMap cEn) := by have := HO.out.row 1 rfl; rwa [hn] at this
 subst hv
 obtain ⟨g, rfl⟩ := row_some hrw h0
 clear hrw hn
 have c1 : w.cell? _ = some (.slice (some ⟨g, 0, none⟩) n cap) := HO.out.cell 0 rfl 0 rfl
 go_enter Tryz.func203, Tryz.ntmps203
 go_wp2
 clear c1
 go_loopw [2, 10] (fun lv kv wr => ∃ k : Nat, k ≤ n ∧ lv = .int .i64 (leastTo l k : Nat) ∧ kv = .int .i64 k ∧ Own w D wr [blkC c (.slice (some ⟨g, 0, none⟩) n cap), rowE (.slice (some ⟨g, 0, none⟩) n cap) l]) (fun _ kv _ => n - (intOf kv).toNat)
 case atStart => exact ⟨0, Nat.zero_le _, rfl, rfl, HO.out⟩
 case round =>
  obtain ⟨k, hk, rfl, rfl, hO⟩ := hrel
  have HO := Hi hO
  clear hO
  have hlt2 : leastTo l k < n := by have := HLL.out k (by have := HN.out; omega); have := HN.out; omega
  have HLS := Hi (show leastTo l (k + 1) = if (l.getD k ⟨⟨#[]⟩, 0, 0, ⟨#[]⟩, 0⟩).ex < (l.getD (leastTo l k) ⟨⟨#[]⟩, 0, 0, ⟨#[]⟩, 0⟩).ex then k else leastTo l k from rfl)
  by_cases hlt : k < n
  ·
   obtain ⟨q, hq⟩ : ∃ q, leastTo l k = q := ⟨_, rfl⟩
   rw [hq] at HLS hlt2 ⊢
   clear hq
   have hrw : wr.ownsRow 0 215 5 (.slice (some ⟨g, 0, none⟩) n cap) n (l.flatMap cEn) := by have := HO.out.row 1 rfl; rwa [HN.out] at this
   have hkl : k < l.length := by have := HN.out; omega
   have hql : q < l.length := by have := HN.out; omega
   rw [getD_eq hkl, getD_eq hql] at HLS
   have yc : ∀ q u, q < 5 → (cEn l[k])[q]? = some u → wr.cell? ⟨g, k * 5 + q, none⟩ = some u := fun q u hq hu => (row_cells hrw).1 _ _ (by rw [flat_getR cEn 5 (fun _ => rfl) l k hkl q hq]; exact hu)
   have HE2 := Hi (show ∀ (w' : World), w'.ownsRow 0 215 5 (.slice (some ⟨g, 0, none⟩) n cap) n (l.flatMap cEn) → w'.cell? ⟨g, q * 5 + 4, none⟩ = some (.int .i64 l[q].ex) from fun w' hr => (row_cells hr).1 _ _ (by rw [flat_getR cEn 5 (fun _ => rfl) l q hql 4 (by decide)]; rfl))
   generalize l[q].ex = qx at *
   generalize l[k] = x at *
   obtain ⟨nm, kd, ad, to, ex⟩ := x
   have y0 : wr.cell? ⟨g, k * 5, none⟩ = some (.string nm) := yc 0 _ (by decide) rfl
   have y1 : wr.cell? ⟨g, k * 5 + 1, none⟩ = some (.int .i64 kd) := yc 1 _ (by decide) rfl
   have y2 : wr.cell? ⟨g, k * 5 + 2, none⟩ = some (.int .i64 ad) := yc 2 _ (by decide) rfl
   have y3 : wr.cell? ⟨g, k * 5 + 3, none⟩ = some (.string to) := yc 3 _ (by decide) rfl
   have y4 : wr.cell? ⟨g, k * 5 + 4, none⟩ = some (.int .i64 ex) := yc 4 _ (by decide) rfl
   clear yc hkl hql hrw
   obtain ⟨x21, hx21, bx, hbx, hO⟩ := HO.out.allocE (.cells #[.string ⟨#[]⟩, .int .i64 0, .int .i64 0, .string ⟨#[]⟩, .int .i64 0] 215)
   replace HO := Hi (show Own w D x21 [blkC c (.slice (some ⟨g, 0, none⟩) n cap), rowE (.slice (some ⟨g, 0, none⟩) n cap) l, blkR bx (.cells #[.string ⟨#[]⟩, .int .i64 0, .int .i64 0, .string ⟨#[]⟩, .int .i64 0] 215)] from hO)
   clear hO
   obtain ⟨x27, x32, x36, x39, x41, hx27, hx32, hx36, hx39, hx41, k2_0_22, lk2_0_22, k2_1_28, lk2_1_28, k2_2_33, lk2_2_33, k2_3_37, lk2_3_37, k2_4_40, lk2_4_40, hO⟩ := HO.out.steps5 2 rfl (.string nm) (.int .i64 kd) (.int .i64 ad) (.string to) (.int .i64 ex)
   replace HO := Hi (show Own _ _ _ [_, _, blkR bx (.cells #[.string nm, .int .i64 kd, .int .i64 ad, .string to, .int .i64 ex] 215)] from hO)
   clear hO
   go_wp2
   clear y0 y1 y2 y3 y4
   clear hx21 hbx k2_0_22 lk2_0_22 hx27 k2_1_28 lk2_1_28 hx32 k2_2_33 lk2_2_33 hx36 k2_3_37 lk2_3_37 hx39 k2_4_40 lk2_4_40 hx41
   have g1 := cell_regrown (show x41.cell? _ = some (.slice (some ⟨g, 0, none⟩) n cap) from HO.out.cell 0 rfl 0 rfl)
   have g2 := cell_regrown (HE2.out x41 (by have := HO.out.row 1 rfl; rwa [HN.out] at this))
   obtain ⟨-, -, -, -, g2_4⟩ := HO.out.g5 2 rfl
   refine wp_region_R 11 (by kernel_rfl) (by kernel_rfl) ?_
   simp only [List.take, List.drop]
   iterate 11 (first | (refine wpR_want (by kernel_rfl) rfl rfl ?_; intro K hK; go_big_quiet_op; go_big_quiet_on) | (refine wpR_is (by kernel_rfl) rfl _ (fun w _ => rfl) ?_; simp only [Act.put, l_T, l_S, l_Z]))
   refine wpR_nil (by kernel_rfl) (by simp) ?_
   rintro w5 hbw
   simp only [exAll]
   simp only [List.drop]
   have hO := HO.out.stay hbw
   replace HO := Hi hO
   clear hO hbw g1 g2 g2_4 
   by_cases hd : ex < qx
   ·
    rw [if_pos hd] at HLS
    go_wp2
    go_roundw
    case rel => exact ⟨k + 1, by omega, by rw [HLS.out], by go_num, HO.out.take 2⟩
    case measure => simp [intOf]; omega
   ·
    rw [if_neg hd] at HLS
    replace hd : qx ≤ ex := by omega
    go_wp2
    go_roundw
    case rel => exact ⟨k + 1, by omega, by rw [HLS.out], by go_num, HO.out.take 2⟩
    case measure => simp [intOf]; omega
  ·
   have hke : n = k := by omega
   subst hke
   have HLE := Hi (show evictF l = l.eraseIdx (leastTo l n) by unfold evictF; rw [HN.out])
   obtain ⟨q, hq⟩ : ∃ q, leastTo l n = q := ⟨_, rfl⟩
   rw [hq] at HLE hlt2 ⊢
   clear hq HLS
   have c1 : wr.cell? _ = some (.slice (some ⟨g, 0, none⟩) n cap) := HO.out.cell 0 rfl 0 rfl
   have hdel := o_stepE (Q := fun (v' : Value) u => u = v') (R' := fun v' => rowE v' (l.eraseIdx q)) HO.out (i := 1) rfl (fun Fr hFr hFD => (delete1 l (Own.one hFr) HN.out hlt2 hl).mono fun e w' ⟨v', he, ho, hs⟩ => ⟨v', v', rfl, he, ho, hs⟩)
   go_wp2_with fail
   refine hdel.mono ?_
   rintro e x1 ⟨v', u, rfl, rfl, hO, hs⟩
   replace HO := Hi (show Own w D x1 [blkC c (.slice (some ⟨g, 0, none⟩) n cap), rowE u (l.eraseIdx q)] from hO)
   obtain ⟨ua, uc, hu⟩ := row_shape (HO.out.row 1 rfl)
   obtain ⟨un, hun⟩ : ∃ un, (l.eraseIdx q).length = un := ⟨_, rfl⟩
   rw [hun] at hu
   subst hu
   clear hdel hO hs c1 hun
   have ⟨c1, f1⟩ : x1.cell? _ = some (.slice (some ⟨g, 0, none⟩) n cap) ∧ _ := HO.out.cf 0 rfl 0 rfl
   obtain ⟨x2, hx2, hO⟩ := HO.out.setE 0 rfl 0 (.slice ua un uc)
   have HO2 := Hi (shutC' (show Own w D x2 [blkC c (.slice ua un uc), rowE (.slice ua un uc) (l.eraseIdx q)] from hO))
   clear hO
   go_wp2
   go_end0
   exact ⟨rfl, by rw [HLE.out]; exact HO2.out, HO2.out.size⟩
theorem set_same {α : Type} {L : List α} {j : Nat} {x : α} (h : L[j]? = some x) : L.set j x = L := by
 apply List.ext_getElem?
 intro k
 rw [List.getElem?_set]
 split
 ·
  rename_i e; subst e
  have : j < L.length := by
   rcases Nat.lt_or_ge j L.length with h' | h'
   ·
    exact h'
   ·
    rw [List.getElem?_eq_none h'] at h; cases h
  obtain ⟨_, hx⟩ := List.getElem?_eq_some_iff.1 h
  simp [this, hx]
 ·
  rfl
def storeF (l : List En) (e : En) : List En := (if 32 ≤ l.length then evictF l else l) ++ [e]
def RL (l l' : List En) : Prop := l' = l ∨ (l.length = 32 ∧ l' = evictF l)
theorem evictF_len {l : List En} (h : 0 < l.length) : (evictF l).length = l.length - 1 := by
 unfold evictF
 rw [List.length_eraseIdx, if_pos (leastTo_lt h _ (Nat.le_refl _))]
theorem RL_len {l l' : List En} (hl : l.length ≤ 32) (h : RL l l') : l'.length ≤ 32 := by
 rcases h with rfl | ⟨h1, rfl⟩
 ·
  exact hl
 ·
  rw [evictF_len (by omega)]; omega
theorem RL_evict {l l' : List En} (h : RL l l') (h32 : 32 ≤ l'.length) (hl : l.length ≤ 32) : RL l (evictF l') ∧ (evictF l').length = 31 := by
 rcases h with rfl | ⟨h1, rfl⟩
 ·
  exact ⟨.inr ⟨by omega, rfl⟩, by rw [evictF_len (by omega)]; omega⟩
 ·
  rw [evictF_len (by omega)] at h32; omega
theorem RL_store {l l' : List En} {e : En} (h : RL l l') (h32 : l'.length < 32) (hl : l.length ≤ 32) : l' ++ [e] = storeF l e := by
 unfold storeF
 rcases h with rfl | ⟨h1, rfl⟩
 ·
  rw [if_neg (by omega)]
 ·
  rw [if_pos (by omega)]
def slN : Option Value → Nat
 | some (.slice _ n _) => n
 | _ => 0
theorem resC_len {w0 w : World} {D : Nat → Prop} {L : List Res} {c : Nat} {l : List En} (h : Own w0 D w (resC c l :: L)) : slN (w.cell? ⟨c, 0, none⟩) = l.length := by
 obtain ⟨v, hO⟩ := openC' h
 obtain ⟨a, cap, rfl⟩ := row_shape (hO.row 1 rfl)
 rw [hO.cell 0 rfl 0 rfl]; rfl
def stRel (w0 : World) (D : Nat → Prop) (c b : Nat) (l : List En) (e : En) (iv : Value) (wr : World) : Prop :=
 (iv = .int .i64 0 ∧ Own w0 D wr [resC c l, blkR b (.cells (enA e) 215)]) ∨ (iv = .int .i64 1 ∧ Own w0 D wr [resC c (storeF l e), blkR b (.cells (enA e) 215)])
theorem run_bsEc (nm : ByteArray) (kd ad : Int) (to : ByteArray) (ex : Int) (w : World) : (Instr.buildSlice 197 1 #[(0, .agg #[.string nm, .int .i64 kd, .int .i64 ad, .string to, .int .i64 ex])]).run Tryz.prog w = .ok (.slice (some ⟨w.heap.size, 0, none⟩) 1 1) (w.alloc (.cells #[.string nm, .int .i64 kd, .int .i64 ad, .string to, .int .i64 ex] 215)) := by kernel_rfl
theorem infoE : (Tryz.prog.info? 215).map (fun i => (i.zero, i.size, i.bytes)) = some (some (.agg #[.string ⟨#[]⟩, .int .i64 0, .int .i64 0, .string ⟨#[]⟩, .int .i64 0]), 5, 56) := by kernel_rfl
theorem oneE (e : En) : ∀ u ∈ cEn e, u.oneCell' = true := by
 intro u hu; simp [cEn] at hu; rcases hu with h | h | h | h | h <;> (subst h; rfl)
theorem store_o {w0 w : World} {D : Nat → Prop} {L : List Res} {c b : Nat} {l : List En} {e : En} (h : Own w0 D w L) (i : Nat) (hi : L[i]? = some (resC c l)) (j : Nat) (hj : L[j]? = some (blkR b (.cells (enA e) 215))) (hij : i ≠ j) (hl : l.length ≤ 32) :
  Calls Tryz.prog 170 #[.pointer (some ⟨c, 0, none⟩), .slice (some ⟨b, 0, none⟩) 1 1] w (OPost w0 D (L.set i (resC c (storeF l e))) (.tuple #[]) w) := by
 have hset : (L.set i (resC c (storeF l e))).set j (blkR b (.cells (enA e) 215)) = L.set i (resC c (storeF l e)) := set_same (by rw [List.getElem?_set_ne hij]; exact hj)
 rw [← hset]
 refine o_two h hi hj hij fun D HO0 => ?_
 clear hset h hi hj hij
 have HO := Hi HO0
 have HL32 := Hi hl
 clear HO0 hl
 go_enter Tryz.func170, Tryz.ntmps170
 go_wp2
 go_loopw [8] (fun iv wr => stRel w D c b l e iv wr) (fun iv _ => 1 - (intOf iv).toNat)
 case atStart => exact .inl ⟨rfl, HO.out⟩
 case round =>
  rcases hrel with ⟨rfl, hO⟩ | ⟨rfl, hO⟩
  ·
   obtain ⟨nm, kd, ad, to, ex⟩ := e
   replace HO := Hi (show Own w D wr [resC c l, blkR b (.cells #[.string nm, .int .i64 kd, .int .i64 ad, .string to, .int .i64 ex] 215)] from hO)
   clear hO
   obtain ⟨z1_0, z1_1, z1_2, z1_3, z1_4⟩ := HO.out.c5 1 rfl
   obtain ⟨x21, hx21, bx, hbx, hO⟩ := HO.out.allocE (.cells #[.string ⟨#[]⟩, .int .i64 0, .int .i64 0, .string ⟨#[]⟩, .int .i64 0] 215)
   replace HO := Hi (show Own _ _ _ [_, _, blkR bx (.cells #[.string ⟨#[]⟩, .int .i64 0, .int .i64 0, .string ⟨#[]⟩, .int .i64 0] 215)] from hO)
   clear hO
   obtain ⟨x27, x32, x36, x39, x41, hx27, hx32, hx36, hx39, hx41, k2_0_22, lk2_0_22, k2_1_28, lk2_1_28, k2_2_33, lk2_2_33, k2_3_37, lk2_3_37, k2_4_40, lk2_4_40, hO⟩ := HO.out.steps5 2 rfl (.string nm) (.int .i64 kd) (.int .i64 ad) (.string to) (.int .i64 ex)
   replace HO := Hi (show Own _ _ _ [_, _, blkR bx (.cells #[.string nm, .int .i64 kd, .int .i64 ad, .string to, .int .i64 ex] 215)] from hO)
   clear hO
   go_wp2
   clear z1_0 z1_1 z1_2 z1_3 z1_4
   clear hx21 hbx k2_0_22 lk2_0_22 hx27 k2_1_28 lk2_1_28 hx32 k2_2_33 lk2_2_33 hx36 k2_3_37 lk2_3_37 hx39 k2_4_40 lk2_4_40 hx41
   go_loopw [] (fun wq => ∃ l', RL l l' ∧ Own w D wq [resC c l', blkR b (.cells #[.string nm, .int .i64 kd, .int .i64 ad, .string to, .int .i64 ex] 215), blkR bx (.cells #[.string nm, .int .i64 kd, .int .i64 ad, .string to, .int .i64 ex] 215)]) (fun wq => slN (wq.cell? ⟨c, 0, none⟩))
   case atStart => exact ⟨l, .inl rfl, HO.out⟩
   case round =>
    obtain ⟨l', hrl, hO⟩ := hrel
    replace HO := Hi (show Own _ _ _ [resC c l', _, _] from hO)
    have HLN := Hi (resC_len hO)
    have hl32 := RL_len HL32.out hrl
    have HRL := Hi hrl
    obtain ⟨v, hO2⟩ := openC' hO
    have HO2 := Hi (show Own w D wr [blkC c v, rowE v l', blkR b (.cells #[.string nm, .int .i64 kd, .int .i64 ad, .string to, .int .i64 ex] 215), blkR bx (.cells #[.string nm, .int .i64 kd, .int .i64 ad, .string to, .int .i64 ex] 215)] from hO2)
    clear hO hO2 hrl
    obtain ⟨a, cap, hv⟩ := row_shape (HO2.out.row 1 rfl)
    obtain ⟨n, hn⟩ : ∃ n, l'.length = n := ⟨_, rfl⟩
    rw [hn] at hv hl32
    have HN := Hi hn
    subst hv
    clear hn
    have c1 : wr.cell? ⟨c, 0, none⟩ = some (.slice a n cap) := HO2.out.cell 0 rfl 0 rfl
    by_cases h32 : n < 32
    ·
     clear HLN
     go_wp2
     generalize hΓ : ghS w D (apS [blkC c (.slice a n cap), rowE (.slice a n cap) l', blkR b (.cells #[.string nm, .int .i64 kd, .int .i64 ad, .string to, .int .i64 ex] 215), blkR bx (.cells #[.string nm, .int .i64 kd, .int .i64 ad, .string to, .int .i64 ex] 215)] 1 (cEn ⟨nm, kd, ad, to, ex⟩) 215 (fun v' => rowR v' 215 5 (n + 1) (l'.flatMap cEn ++ cEn ⟨nm, kd, ad, to, ex⟩))) = Γ
     have HST := Hi (show Γ.inv [] wr by rw [← hΓ]; exact apS_start HO2.out)
     have q0 : ∀ q : Γ.Wd, q.w.cell? ⟨c, 0, none⟩ = some (.slice a n cap) := by rw [← hΓ]; exact apS_cell (c := #[.slice a n cap]) (t := 201) 0 rfl (by decide) 0 rfl
     have q1 : ∀ q : Γ.Wd, q.w.cell? ⟨bx, 0, none⟩ = some (.string nm) := by rw [← hΓ]; exact apS_cell (c := #[.string nm, .int .i64 kd, .int .i64 ad, .string to, .int .i64 ex]) (t := 215) 3 rfl (by decide) 0 rfl
     have q2 : ∀ q : Γ.Wd, q.w.cell? ⟨bx, 1, none⟩ = some (.int .i64 kd) := by rw [← hΓ]; exact apS_cell (c := #[.string nm, .int .i64 kd, .int .i64 ad, .string to, .int .i64 ex]) (t := 215) 3 rfl (by decide) 1 rfl
     have q3 : ∀ q : Γ.Wd, q.w.cell? ⟨bx, 2, none⟩ = some (.int .i64 ad) := by rw [← hΓ]; exact apS_cell (c := #[.string nm, .int .i64 kd, .int .i64 ad, .string to, .int .i64 ex]) (t := 215) 3 rfl (by decide) 2 rfl
     have q4 : ∀ q : Γ.Wd, q.w.cell? ⟨bx, 3, none⟩ = some (.string to) := by rw [← hΓ]; exact apS_cell (c := #[.string nm, .int .i64 kd, .int .i64 ad, .string to, .int .i64 ex]) (t := 215) 3 rfl (by decide) 3 rfl
     have q5 : ∀ q : Γ.Wd, q.w.cell? ⟨bx, 4, none⟩ = some (.int .i64 ex) := by rw [← hΓ]; exact apS_cell (c := #[.string nm, .int .i64 kd, .int .i64 ad, .string to, .int .i64 ex]) (t := 215) 3 rfl (by decide) 4 rfl
     have HΓ := Hi hΓ
     clear hΓ c1
     have ne : Nonempty Γ.Wd := ⟨⟨[], wr, HST.out⟩⟩
     refine wp_region_H Γ 10 [6, 7] (by kernel_rfl) (by kernel_rfl) (by kernel_rfl) (by kernel_rfl) HST.out ?_
     simp only [List.take, List.drop]
     iterate 6 (first | (refine wpH_want (by kernel_rfl) (by kernel_rfl) rfl rfl ?_; intro K hK; go_big_quiet_op; go_big_quiet_on) | (refine wpH_is (by kernel_rfl) (by kernel_rfl) rfl _ (fun _ w _ => rfl) ?_; simp only [Act.put, l_T, l_S, l_Z]))
     refine wpH_chainX 0 (gnth 0) (gnth_lasts _ _) (by kernel_rfl) (by kernel_rfl) (fun a' g hg hgl he => ?_) (fun d hd => ?_)
     ·
      obtain ⟨h25, _⟩ := he
      have h25' : a'.eval (.tmp 25) = .agg #[.string nm, .int .i64 kd, .int .i64 ad, .string to, .int .i64 ex] := h25
      refine wp_of_value (v := .slice (some ⟨g.w.heap.size, 0, none⟩) 1 1) (w' := g.w.alloc (.cells #[.string nm, .int .i64 kd, .int .i64 ad, .string to, .int .i64 ex] 215)) (run_v_ok ?_) ⟨_, rfl, ?_, ?_⟩
      ·
       simp only [List.map_toArray, List.map_cons, List.map_nil, h25']
       exact run_bsEc _ _ _ _ _ _
      ·
       rw [← HΓ.out] at hg ⊢
       exact apS_build hg hgl
      ·
       have : g.vs = [] := List.eq_nil_of_length_eq_zero hgl
       rw [this]; rfl
     cases hd
     simp only [List.nil_append]
     refine wpH_chainX 1 (gnth 1) (gnth_lasts _ _) (by kernel_rfl) (by kernel_rfl) (fun a' g hg hgl he => ?_) (fun d hd => ?_)
     ·
      obtain ⟨h24, h26, _⟩ := he
      have h24' : a'.eval (.tmp 24) = .slice a n cap := h24
      rw [← HΓ.out] at hg ⊢
      exact apS_app (.tmp 24) (.tmp 26) 197 rfl Tryz.underlying197 infoE rfl (by decide) (by have := HN.out; subst this; rfl) rfl (oneE _) (by unfold maxLen; omega) (by omega) hg hgl h24' h26
     cases hd
     simp only [List.cons_append, List.nil_append]
     iterate 2 (first | (refine wpH_want (by kernel_rfl) (by kernel_rfl) rfl rfl ?_; intro K hK; go_big_quiet_op; go_big_quiet_on) | (refine wpH_is (by kernel_rfl) (by kernel_rfl) rfl _ (fun _ w _ => rfl) ?_; simp only [Act.put, l_T, l_S, l_Z]))
     refine wpH_nil (by kernel_rfl) (by simp) ?_
     rintro ⟨vs, x5⟩ hg hgl
     rw [← HΓ.out] at hg
     obtain ⟨s, v, hvs, hO⟩ := apS_end hg hgl
     obtain rfl : vs = [s, v] := hvs
     simp only [gexAll]
     rintro u26 - u27 hu27
     obtain rfl : v = u27 := by simpa [gnth] using hu27
     simp only [List.drop]
     clear ne HST hg hgl HΓ q0 q1 q2 q3 q4 q5
     replace HO := Hi (show Own _ _ _ [blkC c (.slice a n cap), rowR v 215 5 (n + 1) (l'.flatMap cEn ++ cEn ⟨nm, kd, ad, to, ex⟩), blkR b (.cells #[.string nm, .int .i64 kd, .int .i64 ad, .string to, .int .i64 ex] 215), blkR bx (.cells #[.string nm, .int .i64 kd, .int .i64 ad, .string to, .int .i64 ex] 215)] from hO)
     clear hO
     obtain ⟨va, vc, hv⟩ := row_shape (HO.out.row 1 rfl)
     obtain ⟨vn, hvn⟩ : ∃ y, n + 1 = y := ⟨_, rfl⟩
     rw [hvn] at hv
     subst hv
     clear hvn
     have ⟨c1, f1⟩ : x5.cell? _ = some (.slice a n cap) ∧ _ := HO.out.cf 0 rfl 0 rfl
     obtain ⟨x6, hx6, hO⟩ := HO.out.setE 0 rfl 0 (.slice va vn vc)
     have he : l' ++ [⟨nm, kd, ad, to, ex⟩] = storeF l ⟨nm, kd, ad, to, ex⟩ := RL_store HRL.out (by have := HN.out; omega) HL32.out
     have HE := Hi (show rowR (.slice va vn vc) 215 5 (n + 1) (l'.flatMap cEn ++ cEn ⟨nm, kd, ad, to, ex⟩) = rowE (.slice va vn vc) (storeF l ⟨nm, kd, ad, to, ex⟩) by
      rw [← he]
      show _ = rowR _ _ _ _ _
      rw [List.length_append, List.flatMap_append, HN.out]; rfl)
     have HO2 := Hi (shutC' (show Own w D x6 (blkC c (.slice va vn vc) :: rowE (.slice va vn vc) (storeF l ⟨nm, kd, ad, to, ex⟩) :: [blkR b (.cells #[.string nm, .int .i64 kd, .int .i64 ad, .string to, .int .i64 ex] 215), blkR bx (.cells #[.string nm, .int .i64 kd, .int .i64 ad, .string to, .int .i64 ex] 215)]) by rw [← HE.out]; exact hO))
     clear hO he
     go_wp2
     go_roundw
     case rel => exact .inr ⟨rfl, HO2.out.take 2⟩
     case measure => simp [intOf]
    ·
     have h32' : 32 ≤ n := by omega
     have hev := evict_o HO.out 0 rfl (by have := HN.out; omega) (by have := HN.out; omega)
     go_wp2_with fail
     refine hev.mono ?_
     rintro e x3 ⟨rfl, hO, -⟩
     have HE := Hi (RL_evict HRL.out (by have := HN.out; omega) HL32.out)
     have HLM := Hi (resC_len (show Own w D x3 (resC c (evictF l') :: [blkR b (.cells #[.string nm, .int .i64 kd, .int .i64 ad, .string to, .int .i64 ex] 215), blkR bx (.cells #[.string nm, .int .i64 kd, .int .i64 ad, .string to, .int .i64 ex] 215)]) from hO))
     have HO3 := Hi hO
     clear hO hev c1
     go_wp2
     go_roundw
     case rel => exact ⟨evictF l', HE.out.1, HO3.out⟩
     case measure => rw [HLM.out, HLN.out, HE.out.2]; have := HN.out; omega

  ·
   go_wp2
   go_end0
   exact ⟨rfl, hO, hO.size⟩
end Go.Proofs.YtbolfkojebbejaaGreatDoor
