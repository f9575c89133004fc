/- Contracts of IndexFunc over entries. Printed by wip/tools/gen20b.py. -/
import Derived.Test.YtapeljiopbkjlaaGreatDoorCdat
import Derived.Test.YtapeljiopbkjlaaGreatDoorRclr
namespace Go.Proofs.YtapeljiopbkjlaaGreatDoor
open Go.RowKit Go.Sort
set_option linter.unusedVariables false
set_option maxRecDepth 100000

def ixF {α : Type} (p : α → Bool) (l : List α) : Int := match l.findIdx? p with
  | some i => i
  | none => -1
theorem ixF_hit {α : Type} {p : α → Bool} {l : List α} {k : Nat} (hk : k < l.length) (h : (l.take k).any p = false) (h2 : p l[k] = true) : ixF p l = k := by
  unfold ixF
  have : l.findIdx? p = some k := by
    rw [List.findIdx?_eq_some_iff_getElem]
    refine ⟨hk, h2, fun j hj => ?_⟩
    rw [List.any_eq_false] at h
    have := h l[j] (List.mem_take_iff_getElem.2 ⟨j, by omega, rfl⟩)
    simpa using this
  rw [this]
theorem ixF_none {α : Type} {p : α → Bool} {l : List α} (h : l.any p = false) : ixF p l = -1 := by
  unfold ixF
  have : l.findIdx? p = none := by
    rw [List.findIdx?_eq_none_iff]
    intro x hx
    rw [List.any_eq_false] at h
    simpa using h x hx
  rw [this]
set_option maxHeartbeats 2000000 in
theorem indexP {w : World} {v : Value} (l : List En) (p : En → Bool) (b1 b2 : Nat) (hp : ∀ w', Below w.heap.size w w' → ∀ x : En, Calls Tryz.prog 27 #[enV x, .pointer (some ⟨b1, 0, none⟩), .pointer (some ⟨b2, 0, none⟩)] w' fun e w'' => e = .returned (.bool (p x)) ∧ Below w'.heap.size w' w'') (hr : w.ownsRow 0 78 5 v l.length (l.flatMap cEn)) (hl : l.length ≤ 1000) :
    Calls Tryz.prog 62 #[v, .func (.func 27) #[] #[.pointer (some ⟨b1, 0, none⟩), .pointer (some ⟨b2, 0, none⟩)]] w fun e w' => e = .returned (.int .i64 (ixF p l)) ∧ Below w.heap.size w w' := by
  obtain ⟨a, cap, rfl, hcell⟩ := row_at (c := cEn) (fun x => rfl) hr rfl
  have HC := Lib.hid hcell
  clear hcell hr
  have HM := Lib.hid hp
  clear hp
  go_enter Tryz.func62, Tryz.ntmps62
  go_wp2
  go_loopw [5, 8] (fun _ i wr => ∃ k : Nat, k ≤ l.length ∧ i = .int .i64 k ∧ (l.take k).any p = false ∧ Below w.heap.size w wr) (fun _ i _ => l.length - (intOf i).toNat)
  case atStart => exact ⟨0, Nat.zero_le _, rfl, rfl, Below.refl _ _⟩
  case round =>
    obtain ⟨k, hk, rfl, hnone, hbw⟩ := hrel
    have HN := Lib.hid hnone
    have HB := Lib.hid hbw
    clear hnone hbw
    by_cases hlt : k < l.length
    · obtain ⟨g, rfl, hcc⟩ := HC.out (by omega)
      have hkl : k < l.length := hlt
      have hcc := hcc k hkl
      have HT := Lib.hid (any_take (p := p) hkl HN.out)
      have HY := Lib.hid (ixF_hit (p := p) hkl HN.out)
      have yc : ∀ j u, j < 5 → (cEn l[k])[j]? = some u → wr.cell? ⟨g, k * 5 + j, none⟩ = some u := fun j u hj hu => keep HB.out ((hcc j hj).trans hu)
      generalize l[k] = r at *
      obtain ⟨nm, kd, ad, to, ex⟩ := r
      have y0 : wr.cell? ⟨g, k * 5, none⟩ = some (.string nm) := yc 0 _ (by decide) rfl
      have y1 : wr.cell? ⟨g, k * 5 + 1, none⟩ = some (.int .i64 kd) := yc 1 _ (by decide) rfl
      have y2 : wr.cell? ⟨g, k * 5 + 2, none⟩ = some (.int .i64 ad) := yc 2 _ (by decide) rfl
      have y3 : wr.cell? ⟨g, k * 5 + 3, none⟩ = some (.string to) := yc 3 _ (by decide) rfl
      have y4 : wr.cell? ⟨g, k * 5 + 4, none⟩ = some (.int .i64 ex) := yc 4 _ (by decide) rfl
      clear hcc yc hkl
      go_wp2_with fail
      refine (HM.out _ HB.out ⟨nm, kd, ad, to, ex⟩).mono ?_
      rintro e w1 ⟨rfl, hb⟩
      replace HB := Lib.hid (below_mid HB.out hb)
      clear hb y0 y1 y2 y3 y4
      cases he : p ⟨nm, kd, ad, to, ex⟩ with
      | true =>
        have HR := Lib.hid (HY.out he)
        clear HT HY HN he
        go_wp2
        go_ret
        exact ⟨by rw [HR.out]; rfl, HB.out⟩
      | false =>
        rw [he] at HT
        clear he
        go_wp2
        go_roundw
        case rel => exact ⟨k + 1, by omega, by go_num, HT.out, HB.out⟩
        case measure => simp [intOf]; omega
    · obtain rfl : k = l.length := by omega
      have HR := Lib.hid (ixF_none (p := p) (l := l) (by rw [← HN.out, List.take_length]))
      clear HN
      go_wp2
      go_ret
      exact ⟨by rw [HR.out]; rfl, HB.out⟩
set_option maxHeartbeats 2000000 in
theorem indexN {w : World} {v : Value} (l : List En) (p : En → Bool) (b1 : Nat) (hp : ∀ w', Below w.heap.size w w' → ∀ x : En, Calls Tryz.prog 34 #[enV x, .pointer (some ⟨b1, 0, none⟩)] w' fun e w'' => e = .returned (.bool (p x)) ∧ Below w'.heap.size w' w'') (hr : w.ownsRow 0 78 5 v l.length (l.flatMap cEn)) (hl : l.length ≤ 1000) :
    Calls Tryz.prog 62 #[v, .func (.func 34) #[] #[.pointer (some ⟨b1, 0, none⟩)]] w fun e w' => e = .returned (.int .i64 (ixF p l)) ∧ Below w.heap.size w w' := by
  obtain ⟨a, cap, rfl, hcell⟩ := row_at (c := cEn) (fun x => rfl) hr rfl
  have HC := Lib.hid hcell
  clear hcell hr
  have HM := Lib.hid hp
  clear hp
  go_enter Tryz.func62, Tryz.ntmps62
  go_wp2
  go_loopw [5, 8] (fun _ i wr => ∃ k : Nat, k ≤ l.length ∧ i = .int .i64 k ∧ (l.take k).any p = false ∧ Below w.heap.size w wr) (fun _ i _ => l.length - (intOf i).toNat)
  case atStart => exact ⟨0, Nat.zero_le _, rfl, rfl, Below.refl _ _⟩
  case round =>
    obtain ⟨k, hk, rfl, hnone, hbw⟩ := hrel
    have HN := Lib.hid hnone
    have HB := Lib.hid hbw
    clear hnone hbw
    by_cases hlt : k < l.length
    · obtain ⟨g, rfl, hcc⟩ := HC.out (by omega)
      have hkl : k < l.length := hlt
      have hcc := hcc k hkl
      have HT := Lib.hid (any_take (p := p) hkl HN.out)
      have HY := Lib.hid (ixF_hit (p := p) hkl HN.out)
      have yc : ∀ j u, j < 5 → (cEn l[k])[j]? = some u → wr.cell? ⟨g, k * 5 + j, none⟩ = some u := fun j u hj hu => keep HB.out ((hcc j hj).trans hu)
      generalize l[k] = r at *
      obtain ⟨nm, kd, ad, to, ex⟩ := r
      have y0 : wr.cell? ⟨g, k * 5, none⟩ = some (.string nm) := yc 0 _ (by decide) rfl
      have y1 : wr.cell? ⟨g, k * 5 + 1, none⟩ = some (.int .i64 kd) := yc 1 _ (by decide) rfl
      have y2 : wr.cell? ⟨g, k * 5 + 2, none⟩ = some (.int .i64 ad) := yc 2 _ (by decide) rfl
      have y3 : wr.cell? ⟨g, k * 5 + 3, none⟩ = some (.string to) := yc 3 _ (by decide) rfl
      have y4 : wr.cell? ⟨g, k * 5 + 4, none⟩ = some (.int .i64 ex) := yc 4 _ (by decide) rfl
      clear hcc yc hkl
      go_wp2_with fail
      refine (HM.out _ HB.out ⟨nm, kd, ad, to, ex⟩).mono ?_
      rintro e w1 ⟨rfl, hb⟩
      replace HB := Lib.hid (below_mid HB.out hb)
      clear hb y0 y1 y2 y3 y4
      cases he : p ⟨nm, kd, ad, to, ex⟩ with
      | true =>
        have HR := Lib.hid (HY.out he)
        clear HT HY HN he
        go_wp2
        go_ret
        exact ⟨by rw [HR.out]; rfl, HB.out⟩
      | false =>
        rw [he] at HT
        clear he
        go_wp2
        go_roundw
        case rel => exact ⟨k + 1, by omega, by go_num, HT.out, HB.out⟩
        case measure => simp [intOf]; omega
    · obtain rfl : k = l.length := by omega
      have HR := Lib.hid (ixF_none (p := p) (l := l) (by rw [← HN.out, List.take_length]))
      clear HN
      go_wp2
      go_ret
      exact ⟨by rw [HR.out]; rfl, HB.out⟩
set_option maxHeartbeats 2000000 in
theorem indexT {w : World} {v : Value} (l : List En) (p : En → Bool) (b1 : Nat) (hp : ∀ w', Below w.heap.size w w' → ∀ x : En, Calls Tryz.prog 35 #[enV x, .pointer (some ⟨b1, 0, none⟩)] w' fun e w'' => e = .returned (.bool (p x)) ∧ Below w'.heap.size w' w'') (hr : w.ownsRow 0 78 5 v l.length (l.flatMap cEn)) (hl : l.length ≤ 1000) :
    Calls Tryz.prog 62 #[v, .func (.func 35) #[] #[.pointer (some ⟨b1, 0, none⟩)]] w fun e w' => e = .returned (.int .i64 (ixF p l)) ∧ Below w.heap.size w w' := by
  obtain ⟨a, cap, rfl, hcell⟩ := row_at (c := cEn) (fun x => rfl) hr rfl
  have HC := Lib.hid hcell
  clear hcell hr
  have HM := Lib.hid hp
  clear hp
  go_enter Tryz.func62, Tryz.ntmps62
  go_wp2
  go_loopw [5, 8] (fun _ i wr => ∃ k : Nat, k ≤ l.length ∧ i = .int .i64 k ∧ (l.take k).any p = false ∧ Below w.heap.size w wr) (fun _ i _ => l.length - (intOf i).toNat)
  case atStart => exact ⟨0, Nat.zero_le _, rfl, rfl, Below.refl _ _⟩
  case round =>
    obtain ⟨k, hk, rfl, hnone, hbw⟩ := hrel
    have HN := Lib.hid hnone
    have HB := Lib.hid hbw
    clear hnone hbw
    by_cases hlt : k < l.length
    · obtain ⟨g, rfl, hcc⟩ := HC.out (by omega)
      have hkl : k < l.length := hlt
      have hcc := hcc k hkl
      have HT := Lib.hid (any_take (p := p) hkl HN.out)
      have HY := Lib.hid (ixF_hit (p := p) hkl HN.out)
      have yc : ∀ j u, j < 5 → (cEn l[k])[j]? = some u → wr.cell? ⟨g, k * 5 + j, none⟩ = some u := fun j u hj hu => keep HB.out ((hcc j hj).trans hu)
      generalize l[k] = r at *
      obtain ⟨nm, kd, ad, to, ex⟩ := r
      have y0 : wr.cell? ⟨g, k * 5, none⟩ = some (.string nm) := yc 0 _ (by decide) rfl
      have y1 : wr.cell? ⟨g, k * 5 + 1, none⟩ = some (.int .i64 kd) := yc 1 _ (by decide) rfl
      have y2 : wr.cell? ⟨g, k * 5 + 2, none⟩ = some (.int .i64 ad) := yc 2 _ (by decide) rfl
      have y3 : wr.cell? ⟨g, k * 5 + 3, none⟩ = some (.string to) := yc 3 _ (by decide) rfl
      have y4 : wr.cell? ⟨g, k * 5 + 4, none⟩ = some (.int .i64 ex) := yc 4 _ (by decide) rfl
      clear hcc yc hkl
      go_wp2_with fail
      refine (HM.out _ HB.out ⟨nm, kd, ad, to, ex⟩).mono ?_
      rintro e w1 ⟨rfl, hb⟩
      replace HB := Lib.hid (below_mid HB.out hb)
      clear hb y0 y1 y2 y3 y4
      cases he : p ⟨nm, kd, ad, to, ex⟩ with
      | true =>
        have HR := Lib.hid (HY.out he)
        clear HT HY HN he
        go_wp2
        go_ret
        exact ⟨by rw [HR.out]; rfl, HB.out⟩
      | false =>
        rw [he] at HT
        clear he
        go_wp2
        go_roundw
        case rel => exact ⟨k + 1, by omega, by go_num, HT.out, HB.out⟩
        case measure => simp [intOf]; omega
    · obtain rfl : k = l.length := by omega
      have HR := Lib.hid (ixF_none (p := p) (l := l) (by rw [← HN.out, List.take_length]))
      clear HN
      go_wp2
      go_ret
      exact ⟨by rw [HR.out]; rfl, HB.out⟩

end Go.Proofs.YtapeljiopbkjlaaGreatDoor
