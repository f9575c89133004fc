/- Contracts of package ranges, first part: of, canonical, Valid, takes, with. -/
import Derived.Test.YthkkhgfdppbphaaSpan
namespace Go.Proofs.Ythkkhgfdppbphaa
open Go.RowKit Go.Sort
set_option linter.unusedVariables false

theorem of_any (a : Option Addr) (n c : Nat) (w : World) :
    Calls Try.prog 29 #[.slice a n c] w fun e w' => e = .returned (.agg #[.slice a n c]) ∧ Below w.heap.size w w' := by
  go_enter Try.func29, Try.ntmps29
  go_wp2
  exact bodyPost_ret (v := .agg #[.slice a n c]) (by simp [results, Try.results29, go_sem]) rfl ⟨rfl, (Below.refl _ _).alloc (Nat.le_refl _) _⟩

theorem run_fld (a : Option Addr) (n c : Nat) (w : World) : (Instr.field 45 (.agg #[.slice a n c]) 0).run Try.prog w = .ok (.slice a n c) w := by kernel_rfl

theorem set_get {w : World} {p : Nat} {u v : Value} (h : w.cell? ⟨p, 0, none⟩ = some u) : (w.setCell ⟨p, 0, none⟩ v).cell? ⟨p, 0, none⟩ = some v := World.cell?_setCell_same' _ _ _ (by rw [h]; rfl)
theorem put_a {w : World} {p : Nat} {u : Value} (h : w.cell? ⟨p, 0, none⟩ = some u) (hf : w.frozen? ⟨p, 0, none⟩ = false) (o : Obj) (v : Value) :
    w.grownBy ((w.alloc o).setCell ⟨p, 0, none⟩ v) (some p) ∧ ((w.alloc o).setCell ⟨p, 0, none⟩ v).cell? ⟨p, 0, none⟩ = some v ∧ ((w.alloc o).setCell ⟨p, 0, none⟩ v).frozen? ⟨p, 0, none⟩ = false := by
  have hb := (Below.refl _ w).alloc (Nat.le_refl _) o
  refine ⟨⟨rfl, rfl, rfl, by simp [World.setCell], fun k hk hne => ?_⟩, set_get (keep hb h), ?_⟩
  · rw [Below.heap_setCell _ _ _ _ (by simpa using hne)]
    exact Below.heap_alloc w o k hk
  · rw [World.frozen?_setCell, hb.frozen (block_lt_of_cell h)]; exact hf
theorem put_b {w : World} {p : Nat} {u : Value} (h : w.cell? ⟨p, 0, none⟩ = some u) (hf : w.frozen? ⟨p, 0, none⟩ = false) (o : Obj) (v : Value) :
    w.grownBy ((w.setCell ⟨p, 0, none⟩ v).alloc o) (some p) ∧ ((w.setCell ⟨p, 0, none⟩ v).alloc o).cell? ⟨p, 0, none⟩ = some v ∧ ((w.setCell ⟨p, 0, none⟩ v).alloc o).frozen? ⟨p, 0, none⟩ = false := by
  have hb := (Below.refl _ (w.setCell ⟨p, 0, none⟩ v)).alloc (Nat.le_refl _) o
  have hz : (w.setCell ⟨p, 0, none⟩ v).heap.size = w.heap.size := by simp [World.setCell]
  refine ⟨⟨rfl, rfl, rfl, by simp [World.setCell], fun k hk hne => ?_⟩, keep hb (set_get h), ?_⟩
  · rw [Below.heap_alloc _ o k (by rw [hz]; exact hk)]
    exact Below.heap_setCell _ _ _ _ (by simpa using hne)
  · rw [hb.frozen (by rw [hz]; exact block_lt_of_cell h), World.frozen?_setCell]; exact hf

set_option maxHeartbeats 1000000 in
theorem follows_any (x : Sp) (e : Int) (p : Nat) (w : World) (hc : w.cell? ⟨p, 0, none⟩ = some (.int .i64 e)) (hf : w.frozen? ⟨p, 0, none⟩ = false) :
    Calls Try.prog 35 #[spV x, .pointer (some ⟨p, 0, none⟩)] w fun r w' => r = .returned (.bool (okS e x)) ∧ (w.grownBy w' (some p) ∧ w'.cell? ⟨p, 0, none⟩ = some (.int .i64 x.to) ∧ w'.frozen? ⟨p, 0, none⟩ = false) := by
  obtain ⟨fr, to⟩ := x
  have hp : p < w.heap.size := block_lt_of_cell hc
  have hc' := keep ((Below.refl _ w).alloc (Nat.le_refl _) (.cells #[.int .i64 fr, .int .i64 to] 24)) hc
  have hf' : (w.alloc (.cells #[.int .i64 fr, .int .i64 to] 24)).frozen? ⟨p, 0, none⟩ = false := by
    rw [((Below.refl w.heap.size w).alloc (Nat.le_refl _) (.cells #[.int .i64 fr, .int .i64 to] 24)).frozen hp]; exact hf
  by_cases h1 : 0 ≤ fr
  · by_cases h2 : e < fr
    · by_cases h3 : fr < to
      · by_cases h4 : to ≤ 1099511627776
        · have HR := Lib.hid (show okS e ⟨fr, to⟩ = true from okS_iff.2 ⟨h1, h2, h3, h4⟩)
          go_enter Try.func35, Try.ntmps35
          go_wp2
          go_ret
          exact ⟨by rw [HR.out]; rfl, by first | exact put_a hc hf _ _ | exact put_b hc hf _ _⟩
        · have HR := Lib.hid (show okS e ⟨fr, to⟩ = false by simp [okS]; omega)
          go_enter Try.func35, Try.ntmps35
          go_wp2
          go_ret
          exact ⟨by rw [HR.out]; rfl, by first | exact put_a hc hf _ _ | exact put_b hc hf _ _⟩
      · have HR := Lib.hid (show okS e ⟨fr, to⟩ = false by simp [okS]; omega)
        go_enter Try.func35, Try.ntmps35
        go_wp2
        go_ret
        exact ⟨by rw [HR.out]; rfl, by first | exact put_a hc hf _ _ | exact put_b hc hf _ _⟩
    · have HR := Lib.hid (show okS e ⟨fr, to⟩ = false by simp [okS]; omega)
      go_enter Try.func35, Try.ntmps35
      go_wp2
      go_ret
      exact ⟨by rw [HR.out]; rfl, by first | exact put_a hc hf _ _ | exact put_b hc hf _ _⟩
  · have HR := Lib.hid (show okS e ⟨fr, to⟩ = false by simp [okS]; omega)
    go_enter Try.func35, Try.ntmps35
    go_wp2
    go_ret
    exact ⟨by rw [HR.out]; rfl, by first | exact put_a hc hf _ _ | exact put_b hc hf _ _⟩

/-- What the end is behind the first k spans. -/
def endAt (l : List Sp) (k : Nat) : Int := match k with | 0 => -1 | k + 1 => (spAt l k).to
theorem drop_at (l : List Sp) (k : Nat) (h : k < l.length) : l.drop k = spAt l k :: l.drop (k + 1) := by
  rw [spAt_eq l k h]; exact List.drop_eq_getElem_cons h

set_option maxHeartbeats 2000000 in
theorem canonical_any (l : List Sp) (v : Value) (w : World) (h : RdS w v l) :
    Calls Try.prog 30 #[v] w fun e w' => e = .returned (.bool (canF (-1) l)) ∧ Below w.heap.size w w' := by
  obtain ⟨a, cap, rfl, hcap, hlen, hp⟩ := h
  have HP := Lib.hid hp
  clear hp
  go_enter Try.func30, Try.ntmps30
  go_wp2
  go_loopw [10] (fun i wr => ∃ k : Nat, k ≤ l.length ∧ i = .int .i64 k ∧ canF (endAt l k) (l.drop k) = canF (-1) l ∧ wr.cell? ⟨w.heap.size, 0, none⟩ = some (.int .i64 (endAt l k)) ∧ wr.frozen? ⟨w.heap.size, 0, none⟩ = false ∧ Below w.heap.size w wr) (fun i _ => l.length - (intOf i).toNat)
  case atStart => exact ⟨0, Nat.zero_le _, rfl, rfl, by simp [endAt], by simp [go_sem], (Below.refl _ _).alloc (Nat.le_refl _) _⟩
  case round =>
    obtain ⟨k, hk, rfl, hcn, hce, hfr, hb⟩ := hrel
    by_cases hlt : k < l.length
    · obtain ⟨b, o, rfl, hc⟩ := HP.out (by omega)
      obtain ⟨c0, c1⟩ := (hc k hlt).stay hb
      clear hc
      rw [drop_at l k hlt] at hcn
      have HN := Lib.hid hcn
      have HE := Lib.hid (show endAt l (k + 1) = (spAt l k).to from rfl)
      clear hcn
      generalize spAt l k = x at *
      generalize endAt l k = en at *
      have hkc : k ≤ cap := by omega
      have hbx := hb.alloc hb.size (.cells #[.int .i64 x.fr, .int .i64 x.to] 24)
      have hce1 := keep ((Below.refl _ wr).alloc (Nat.le_refl _) (.cells #[.int .i64 x.fr, .int .i64 x.to] 24)) hce
      have hfr1 : (wr.alloc (.cells #[.int .i64 x.fr, .int .i64 x.to] 24)).frozen? ⟨w.heap.size, 0, none⟩ = false := by
        rw [((Below.refl wr.heap.size wr).alloc (Nat.le_refl _) (.cells #[.int .i64 x.fr, .int .i64 x.to] 24)).frozen (block_lt_of_cell hce)]; exact hfr
      have HC1 := Lib.hid hce1
      have HF1 := Lib.hid hfr1
      have HB2 := Lib.hid hbx
      clear hce1 hfr1 hbx
      go_wp2_with fail
      refine (follows_any x en w.heap.size _ HC1.out HF1.out).mono ?_
      rintro e w2 ⟨rfl, hg2, hC2, hF2⟩
      have hB2 : Below w.heap.size w w2 := HB2.out.grown hg2 HB2.out.size (fun k e => by cases e; exact Nat.le_refl _)
      clear hg2 HC1 HF1 HB2 hce hfr hb c0 c1
      cases hok : okS en x
      case true =>
        have HQ := Lib.hid (show canF x.to (l.drop (k + 1)) = canF (-1) l by rw [← HN.out]; simp [canF, hok])
        go_wp2
        go_roundw
        case rel => exact ⟨k + 1, by omega, by go_num, by rw [HE.out]; exact HQ.out, by rw [HE.out]; exact hC2, hF2, hB2⟩
        case measure => simp [intOf]; omega
      case false =>
        have HQ := Lib.hid (show canF (-1) l = false by rw [← HN.out]; simp [canF, hok])
        go_wp2
        go_ret
        exact ⟨by rw [HQ.out]; rfl, hB2⟩
    · have HQ := Lib.hid (show canF (-1) l = true by rw [← hcn, List.drop_of_length_le (by omega)]; rfl)
      clear hcn
      go_wp2
      go_ret
      exact ⟨by rw [HQ.out]; rfl, hb⟩

theorem can_r {l : List Sp} {r : Bool} (h : canF (-1) l = r) (v : Value) (w : World) (hR : RdS w v l) :
    Calls Try.prog 30 #[v] w fun e w' => e = .returned (.bool r) ∧ Below w.heap.size w w' := h ▸ canonical_any l v w hR

theorem valid_any (l : List Sp) (v : Value) (w : World) (h : RdS w v l) :
    Calls Try.prog 13 #[v] w fun e w' => e = .returned (.bool (canF (-1) l)) ∧ Below w.heap.size w w' := by
  have hR := h
  obtain ⟨a, cap, rfl, hcap, hlen, hp⟩ := h
  clear hp
  go_enter Try.func13, Try.ntmps13
  go_wp2_with fail
  refine (of_any _ _ _ _).mono ?_
  rintro e w1 ⟨rfl, hb⟩
  have rf := run_fld
  go_wp2_with fail
  refine (canonical_any l _ _ (hR.stay hb)).mono ?_
  rintro e w2 ⟨rfl, hb2⟩
  go_wp2
  go_ret
  exact ⟨rfl, below_mid hb hb2⟩

end Go.Proofs.Ythkkhgfdppbphaa
