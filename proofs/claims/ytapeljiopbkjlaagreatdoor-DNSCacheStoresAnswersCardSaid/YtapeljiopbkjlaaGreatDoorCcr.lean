/- Contracts of check and checkRecord. Contract of checkRecord. Printed by wip/tools/gen20h.py. -/
import Derived.Test.YtapeljiopbkjlaaGreatDoorCsto
import Derived.Test.YtapeljiopbkjlaaGreatDoorVn
namespace Go.Proofs.YtapeljiopbkjlaaGreatDoor
open Go.RowKit Go.Sort
set_option linter.unusedVariables false
set_option maxRecDepth 100000

/-- A cell that nothing changes. -/
def cellR (g : Nat) (v : Value) : Res where
  P w F := (∀ x, F x ↔ x = g) ∧ w.cell? ⟨g, 0, none⟩ = some v
  bound h x hx := by rw [(h.1 x).1 hx]; exact block_lt_of_cell h.2
  move h hu hF := ⟨h.1, hu.keep (hF _ ((h.1 _).2 rfl)) h.2⟩
theorem Own.at {w0 w : World} {D : Nat → Prop} {L : List Res} (h : Own w0 D w L) (i : Nat) {g : Nat} {v : Value} (hi : L[i]? = some (cellR g v)) : w.cell? ⟨g, 0, none⟩ = some v := by
  obtain ⟨F, h1, _⟩ := h.step hi; exact h1.2
abbrev errT : TypeId := 159
abbrev errV (a : Addr) : Value := .iface 159 (.pointer (some a))
abbrev errG : Nat := 0
def chkF (now : Int) (nm : ByteArray) (tt : Int) : Bool := decide (0 ≤ now) && decide (now ≤ 1000000000) && decide (0 ≤ tt) && decide (tt ≤ 1000) && vname nm
def adrOk (a : Int) : Bool := decide (0 ≤ a) && decide (a ≤ 4294967295)
def recB (now : Int) (r : Rc) : Bool := ((decide (r.kd = 1) && adrOk r.ad && decide (r.to.toList = [])) || (decide (r.kd = 2) && vname r.to && decide (r.ad = 0))) && chkF now r.nm r.tt
def chkV (b : Bool) (a : Addr) : Value := if b then .nilIface else errV a
theorem adr_any (a : Int) (w : World) : Calls Tryz.prog 46 #[.int .i64 a] w fun e w' => e = .returned (.bool (adrOk a)) ∧ w = w' := by
  unfold adrOk
  go_enter Tryz.func46, Tryz.ntmps46
  go_wp2
  all_goals (go_ret; refine ⟨ret_bool ?_, rfl⟩; first | (rw [Bool.eq_iff_iff]; done) | (rw [Bool.eq_iff_iff]; simp; done) | (rw [Bool.eq_iff_iff]; simp; omega))
theorem adr_r {a : Int} {b : Bool} (h : adrOk a = b) (w : World) : Calls Tryz.prog 46 #[.int .i64 a] w fun e w' => e = .returned (.bool b) ∧ w = w' := h ▸ adr_any a w
theorem vname_r {s : ByteArray} {b : Bool} (h : vname s = b) (hs : s.size ≤ maxLen) (w : World) : Calls Tryz.prog 36 #[.string s] w fun e w' => e = .returned (.bool b) ∧ Below w.heap.size w w' := h ▸ vname_any s w hs
theorem check_any (now : Int) (nm : ByteArray) (tt : Int) (a : Addr) (w : World) (hs : nm.size ≤ maxLen) (hg : w.cell? ⟨errG, 0, none⟩ = some (errV a)) :
    Calls Tryz.prog 33 #[.int .i64 now, .string nm, .int .i64 tt] w fun e w' => e = .returned (chkV (chkF now nm tt) a) ∧ Below w.heap.size w w' := by
  have HG := Lib.hid hg
  have HS := Lib.hid hs
  clear hg hs
  by_cases hq : 0 ≤ now ∧ now ≤ 1000000000 ∧ 0 ≤ tt ∧ tt ≤ 1000
  · obtain ⟨q1, q2, q3, q4⟩ := hq
    cases hv : vname nm with
    | false =>
      have HR := Lib.hid (show chkF now nm tt = false by unfold chkF; simp [hv])
      have HV := Lib.hid hv
      clear hv
      go_enter Tryz.func33, Tryz.ntmps33
      go_wp2_with fail
      refine (vname_r HV.out HS.out _).mono ?_
      rintro e w1 ⟨rfl, hb⟩
      have hg := keep hb HG.out
      go_wp2
      go_ret
      exact ⟨by rw [HR.out]; rfl, hb⟩
    | true =>
      have HR := Lib.hid (show chkF now nm tt = true by unfold chkF; simp [hv, q1, q2, q3, q4])
      have HV := Lib.hid hv
      clear hv
      go_enter Tryz.func33, Tryz.ntmps33
      go_wp2_with fail
      refine (vname_r HV.out HS.out _).mono ?_
      rintro e w1 ⟨rfl, hb⟩
      go_wp2
      go_ret
      exact ⟨by rw [HR.out]; rfl, hb⟩
  · have HR := Lib.hid (show chkF now nm tt = false by
      unfold chkF
      rw [Bool.eq_false_iff]
      simp only [ne_eq, Bool.and_eq_true, decide_eq_true_eq]
      omega)
    have hg := HG.out
    by_cases q1 : 0 ≤ now
    · by_cases q2 : now ≤ 1000000000
      · by_cases q3 : 0 ≤ tt
        · have q4 : ¬ tt ≤ 1000 := by omega
          clear hq
          go_enter Tryz.func33, Tryz.ntmps33
          go_wp2
          go_ret
          exact ⟨by rw [HR.out]; rfl, Below.refl _ _⟩
        · clear hq
          go_enter Tryz.func33, Tryz.ntmps33
          go_wp2
          go_ret
          exact ⟨by rw [HR.out]; rfl, Below.refl _ _⟩
      · clear hq
        go_enter Tryz.func33, Tryz.ntmps33
        go_wp2
        go_ret
        exact ⟨by rw [HR.out]; rfl, Below.refl _ _⟩
    · clear hq
      go_enter Tryz.func33, Tryz.ntmps33
      go_wp2
      go_ret
      exact ⟨by rw [HR.out]; rfl, Below.refl _ _⟩
theorem check_r {now : Int} {nm : ByteArray} {tt : Int} {b : Bool} (h : chkF now nm tt = b) (a : Addr) (w : World) (hs : nm.size ≤ maxLen) (hg : w.cell? ⟨errG, 0, none⟩ = some (errV a)) :
    Calls Tryz.prog 33 #[.int .i64 now, .string nm, .int .i64 tt] w fun e w' => e = .returned (chkV b a) ∧ Below w.heap.size w w' := h ▸ check_any now nm tt a w hs hg

end Go.Proofs.YtapeljiopbkjlaaGreatDoor

namespace Go.Proofs.YtapeljiopbkjlaaGreatDoor
open Go.RowKit Go.Sort
set_option linter.unusedVariables false
set_option maxRecDepth 100000

def recA (r : Rc) : Bool := (decide (r.kd = 1) && adrOk r.ad && decide (r.to.toList = [])) || (decide (r.kd = 2) && vname r.to && decide (r.ad = 0))
theorem recB_eq (now : Int) (r : Rc) : recB now r = (recA r && chkF now r.nm r.tt) := rfl
def crPost (v : Value) (w : World) (e : Ending) (w' : World) : Prop := e = .returned v ∧ Below w.heap.size w w'
set_option maxHeartbeats 1000000 in
theorem chr_1 (now : Int) (nm : ByteArray) (kd tt ad : Int) (to : ByteArray) (a : Addr) (w : World) (hn : nm.size ≤ maxLen) (ht : to.size ≤ maxLen) (hg : w.cell? ⟨errG, 0, none⟩ = some (errV a)) (h1 : kd = 1) (h2 : adrOk ad = true) (h3 : to.toList = []) :
    Calls Tryz.prog 25 #[.int .i64 now, .agg #[.string nm, .int .i64 kd, .int .i64 tt, .int .i64 ad, .string to]] w (crPost (chkV (chkF now nm tt) a) w) := by
  have HG := Lib.hid hg
  have HN := Lib.hid hn
  have HT := Lib.hid ht
  clear hg hn ht
  have HO := Lib.hid (Own.nil w none0)
  subst h1
  have H2 := Lib.hid h2
  clear h2
  have H3 := h3
  obtain ⟨x1, hx1⟩ : ∃ y, w.alloc (.cells #[.string nm, .int .i64 1, .int .i64 tt, .int .i64 ad, .string to] 28) = y := ⟨_, rfl⟩
  obtain ⟨bx, hbx⟩ : ∃ y, w.heap.size = y := ⟨_, rfl⟩
  have hO := HO.out.alloc (.cells #[.string nm, .int .i64 1, .int .i64 tt, .int .i64 ad, .string to] 28)
  rw [hx1, hbx] at hO
  replace HO := Lib.hid (show Own w none0 x1 [blkR bx (.cells #[.string nm, .int .i64 1, .int .i64 tt, .int .i64 ad, .string to] 28)] from hO)
  clear hO
  have z0_0 : x1.cell? ⟨bx, 0, none⟩ = some (.string nm) := HO.out.cell 0 rfl 0 rfl
  have z0_1 : x1.cell? ⟨bx, 1, none⟩ = some (.int .i64 1) := HO.out.cell 0 rfl 1 rfl
  have z0_2 : x1.cell? ⟨bx, 2, none⟩ = some (.int .i64 tt) := HO.out.cell 0 rfl 2 rfl
  have z0_3 : x1.cell? ⟨bx, 3, none⟩ = some (.int .i64 ad) := HO.out.cell 0 rfl 3 rfl
  have z0_4 : x1.cell? ⟨bx, 4, none⟩ = some (.string to) := HO.out.cell 0 rfl 4 rfl
  have hg := keep HO.out.below HG.out
  go_enter Tryz.func25, Tryz.ntmps25
  go_wp2_with fail
  refine (adr_r H2.out _).mono ?_
  rintro e xp ⟨rfl, rfl⟩
  go_wp2_with fail
  refine (check_any _ _ _ a _ HN.out hg).mono ?_
  rintro e x9 ⟨rfl, hb⟩
  go_wp2
  go_ret
  exact ⟨rfl, (HO.out.stay hb).below⟩
set_option maxHeartbeats 1000000 in
theorem chr_2 (now : Int) (nm : ByteArray) (kd tt ad : Int) (to : ByteArray) (a : Addr) (w : World) (hn : nm.size ≤ maxLen) (ht : to.size ≤ maxLen) (hg : w.cell? ⟨errG, 0, none⟩ = some (errV a)) (h1 : kd = 1) (h2 : adrOk ad = true) (h3 : to.toList ≠ []) :
    Calls Tryz.prog 25 #[.int .i64 now, .agg #[.string nm, .int .i64 kd, .int .i64 tt, .int .i64 ad, .string to]] w (crPost (errV a) w) := by
  have HG := Lib.hid hg
  have HN := Lib.hid hn
  have HT := Lib.hid ht
  clear hg hn ht
  have HO := Lib.hid (Own.nil w none0)
  subst h1
  have H2 := Lib.hid h2
  clear h2
  have h3b : to.toList.isEmpty = false := by simpa using h3
  obtain ⟨x1, hx1⟩ : ∃ y, w.alloc (.cells #[.string nm, .int .i64 1, .int .i64 tt, .int .i64 ad, .string to] 28) = y := ⟨_, rfl⟩
  obtain ⟨bx, hbx⟩ : ∃ y, w.heap.size = y := ⟨_, rfl⟩
  have hO := HO.out.alloc (.cells #[.string nm, .int .i64 1, .int .i64 tt, .int .i64 ad, .string to] 28)
  rw [hx1, hbx] at hO
  replace HO := Lib.hid (show Own w none0 x1 [blkR bx (.cells #[.string nm, .int .i64 1, .int .i64 tt, .int .i64 ad, .string to] 28)] from hO)
  clear hO
  have z0_0 : x1.cell? ⟨bx, 0, none⟩ = some (.string nm) := HO.out.cell 0 rfl 0 rfl
  have z0_1 : x1.cell? ⟨bx, 1, none⟩ = some (.int .i64 1) := HO.out.cell 0 rfl 1 rfl
  have z0_2 : x1.cell? ⟨bx, 2, none⟩ = some (.int .i64 tt) := HO.out.cell 0 rfl 2 rfl
  have z0_3 : x1.cell? ⟨bx, 3, none⟩ = some (.int .i64 ad) := HO.out.cell 0 rfl 3 rfl
  have z0_4 : x1.cell? ⟨bx, 4, none⟩ = some (.string to) := HO.out.cell 0 rfl 4 rfl
  have hg := keep HO.out.below HG.out
  go_enter Tryz.func25, Tryz.ntmps25
  go_wp2_with fail
  refine (adr_r H2.out _).mono ?_
  rintro e xp ⟨rfl, rfl⟩
  go_wp2
  go_ret
  exact ⟨rfl, HO.out.below⟩
set_option maxHeartbeats 1000000 in
theorem chr_3 (now : Int) (nm : ByteArray) (kd tt ad : Int) (to : ByteArray) (a : Addr) (w : World) (hn : nm.size ≤ maxLen) (ht : to.size ≤ maxLen) (hg : w.cell? ⟨errG, 0, none⟩ = some (errV a)) (h1 : kd = 1) (h2 : adrOk ad = false) :
    Calls Tryz.prog 25 #[.int .i64 now, .agg #[.string nm, .int .i64 kd, .int .i64 tt, .int .i64 ad, .string to]] w (crPost (errV a) w) := by
  have HG := Lib.hid hg
  have HN := Lib.hid hn
  have HT := Lib.hid ht
  clear hg hn ht
  have HO := Lib.hid (Own.nil w none0)
  subst h1
  have H2 := Lib.hid h2
  clear h2
  obtain ⟨x1, hx1⟩ : ∃ y, w.alloc (.cells #[.string nm, .int .i64 1, .int .i64 tt, .int .i64 ad, .string to] 28) = y := ⟨_, rfl⟩
  obtain ⟨bx, hbx⟩ : ∃ y, w.heap.size = y := ⟨_, rfl⟩
  have hO := HO.out.alloc (.cells #[.string nm, .int .i64 1, .int .i64 tt, .int .i64 ad, .string to] 28)
  rw [hx1, hbx] at hO
  replace HO := Lib.hid (show Own w none0 x1 [blkR bx (.cells #[.string nm, .int .i64 1, .int .i64 tt, .int .i64 ad, .string to] 28)] from hO)
  clear hO
  have z0_0 : x1.cell? ⟨bx, 0, none⟩ = some (.string nm) := HO.out.cell 0 rfl 0 rfl
  have z0_1 : x1.cell? ⟨bx, 1, none⟩ = some (.int .i64 1) := HO.out.cell 0 rfl 1 rfl
  have z0_2 : x1.cell? ⟨bx, 2, none⟩ = some (.int .i64 tt) := HO.out.cell 0 rfl 2 rfl
  have z0_3 : x1.cell? ⟨bx, 3, none⟩ = some (.int .i64 ad) := HO.out.cell 0 rfl 3 rfl
  have z0_4 : x1.cell? ⟨bx, 4, none⟩ = some (.string to) := HO.out.cell 0 rfl 4 rfl
  have hg := keep HO.out.below HG.out
  go_enter Tryz.func25, Tryz.ntmps25
  go_wp2_with fail
  refine (adr_r H2.out _).mono ?_
  rintro e xp ⟨rfl, rfl⟩
  go_wp2
  go_ret
  exact ⟨rfl, HO.out.below⟩
set_option maxHeartbeats 1000000 in
theorem chr_4 (now : Int) (nm : ByteArray) (kd tt ad : Int) (to : ByteArray) (a : Addr) (w : World) (hn : nm.size ≤ maxLen) (ht : to.size ≤ maxLen) (hg : w.cell? ⟨errG, 0, none⟩ = some (errV a)) (h1 : kd = 2) (h2 : vname to = true) (h3 : ad = 0) :
    Calls Tryz.prog 25 #[.int .i64 now, .agg #[.string nm, .int .i64 kd, .int .i64 tt, .int .i64 ad, .string to]] w (crPost (chkV (chkF now nm tt) a) w) := by
  have HG := Lib.hid hg
  have HN := Lib.hid hn
  have HT := Lib.hid ht
  clear hg hn ht
  have HO := Lib.hid (Own.nil w none0)
  subst h1
  subst h3
  have H2 := Lib.hid h2
  clear h2
  obtain ⟨x1, hx1⟩ : ∃ y, w.alloc (.cells #[.string nm, .int .i64 2, .int .i64 tt, .int .i64 0, .string to] 28) = y := ⟨_, rfl⟩
  obtain ⟨bx, hbx⟩ : ∃ y, w.heap.size = y := ⟨_, rfl⟩
  have hO := HO.out.alloc (.cells #[.string nm, .int .i64 2, .int .i64 tt, .int .i64 0, .string to] 28)
  rw [hx1, hbx] at hO
  replace HO := Lib.hid (show Own w none0 x1 [blkR bx (.cells #[.string nm, .int .i64 2, .int .i64 tt, .int .i64 0, .string to] 28)] from hO)
  clear hO
  have z0_0 : x1.cell? ⟨bx, 0, none⟩ = some (.string nm) := HO.out.cell 0 rfl 0 rfl
  have z0_1 : x1.cell? ⟨bx, 1, none⟩ = some (.int .i64 2) := HO.out.cell 0 rfl 1 rfl
  have z0_2 : x1.cell? ⟨bx, 2, none⟩ = some (.int .i64 tt) := HO.out.cell 0 rfl 2 rfl
  have z0_3 : x1.cell? ⟨bx, 3, none⟩ = some (.int .i64 0) := HO.out.cell 0 rfl 3 rfl
  have z0_4 : x1.cell? ⟨bx, 4, none⟩ = some (.string to) := HO.out.cell 0 rfl 4 rfl
  have hg := keep HO.out.below HG.out
  go_enter Tryz.func25, Tryz.ntmps25
  go_wp2_with fail
  refine (vname_r H2.out HT.out _).mono ?_
  rintro e x8 ⟨rfl, hb⟩
  have hO := HO.out.stay hb
  replace HO := Lib.hid (show Own w none0 x8 [blkR bx (.cells #[.string nm, .int .i64 2, .int .i64 tt, .int .i64 0, .string to] 28)] from hO)
  clear hO
  clear hg hb hx1 hbx z0_0 z0_1 z0_2 z0_3 z0_4
  have z0_0 : x8.cell? ⟨bx, 0, none⟩ = some (.string nm) := HO.out.cell 0 rfl 0 rfl
  have z0_1 : x8.cell? ⟨bx, 1, none⟩ = some (.int .i64 2) := HO.out.cell 0 rfl 1 rfl
  have z0_2 : x8.cell? ⟨bx, 2, none⟩ = some (.int .i64 tt) := HO.out.cell 0 rfl 2 rfl
  have z0_3 : x8.cell? ⟨bx, 3, none⟩ = some (.int .i64 0) := HO.out.cell 0 rfl 3 rfl
  have z0_4 : x8.cell? ⟨bx, 4, none⟩ = some (.string to) := HO.out.cell 0 rfl 4 rfl
  have hg := keep HO.out.below HG.out
  go_wp2_with fail
  refine (check_any _ _ _ a _ HN.out hg).mono ?_
  rintro e x9 ⟨rfl, hb⟩
  go_wp2
  go_ret
  exact ⟨rfl, (HO.out.stay hb).below⟩
set_option maxHeartbeats 1000000 in
theorem chr_5 (now : Int) (nm : ByteArray) (kd tt ad : Int) (to : ByteArray) (a : Addr) (w : World) (hn : nm.size ≤ maxLen) (ht : to.size ≤ maxLen) (hg : w.cell? ⟨errG, 0, none⟩ = some (errV a)) (h1 : kd = 2) (h2 : vname to = true) (h3 : ad ≠ 0) :
    Calls Tryz.prog 25 #[.int .i64 now, .agg #[.string nm, .int .i64 kd, .int .i64 tt, .int .i64 ad, .string to]] w (crPost (errV a) w) := by
  have HG := Lib.hid hg
  have HN := Lib.hid hn
  have HT := Lib.hid ht
  clear hg hn ht
  have HO := Lib.hid (Own.nil w none0)
  subst h1
  have H2 := Lib.hid h2
  clear h2
  obtain ⟨x1, hx1⟩ : ∃ y, w.alloc (.cells #[.string nm, .int .i64 2, .int .i64 tt, .int .i64 ad, .string to] 28) = y := ⟨_, rfl⟩
  obtain ⟨bx, hbx⟩ : ∃ y, w.heap.size = y := ⟨_, rfl⟩
  have hO := HO.out.alloc (.cells #[.string nm, .int .i64 2, .int .i64 tt, .int .i64 ad, .string to] 28)
  rw [hx1, hbx] at hO
  replace HO := Lib.hid (show Own w none0 x1 [blkR bx (.cells #[.string nm, .int .i64 2, .int .i64 tt, .int .i64 ad, .string to] 28)] from hO)
  clear hO
  have z0_0 : x1.cell? ⟨bx, 0, none⟩ = some (.string nm) := HO.out.cell 0 rfl 0 rfl
  have z0_1 : x1.cell? ⟨bx, 1, none⟩ = some (.int .i64 2) := HO.out.cell 0 rfl 1 rfl
  have z0_2 : x1.cell? ⟨bx, 2, none⟩ = some (.int .i64 tt) := HO.out.cell 0 rfl 2 rfl
  have z0_3 : x1.cell? ⟨bx, 3, none⟩ = some (.int .i64 ad) := HO.out.cell 0 rfl 3 rfl
  have z0_4 : x1.cell? ⟨bx, 4, none⟩ = some (.string to) := HO.out.cell 0 rfl 4 rfl
  have hg := keep HO.out.below HG.out
  go_enter Tryz.func25, Tryz.ntmps25
  go_wp2_with fail
  refine (vname_r H2.out HT.out _).mono ?_
  rintro e x8 ⟨rfl, hb⟩
  have hO := HO.out.stay hb
  replace HO := Lib.hid (show Own w none0 x8 [blkR bx (.cells #[.string nm, .int .i64 2, .int .i64 tt, .int .i64 ad, .string to] 28)] from hO)
  clear hO
  clear hg hb hx1 hbx z0_0 z0_1 z0_2 z0_3 z0_4
  have z0_0 : x8.cell? ⟨bx, 0, none⟩ = some (.string nm) := HO.out.cell 0 rfl 0 rfl
  have z0_1 : x8.cell? ⟨bx, 1, none⟩ = some (.int .i64 2) := HO.out.cell 0 rfl 1 rfl
  have z0_2 : x8.cell? ⟨bx, 2, none⟩ = some (.int .i64 tt) := HO.out.cell 0 rfl 2 rfl
  have z0_3 : x8.cell? ⟨bx, 3, none⟩ = some (.int .i64 ad) := HO.out.cell 0 rfl 3 rfl
  have z0_4 : x8.cell? ⟨bx, 4, none⟩ = some (.string to) := HO.out.cell 0 rfl 4 rfl
  have hg := keep HO.out.below HG.out
  go_wp2
  go_ret
  exact ⟨rfl, HO.out.below⟩
set_option maxHeartbeats 1000000 in
theorem chr_6 (now : Int) (nm : ByteArray) (kd tt ad : Int) (to : ByteArray) (a : Addr) (w : World) (hn : nm.size ≤ maxLen) (ht : to.size ≤ maxLen) (hg : w.cell? ⟨errG, 0, none⟩ = some (errV a)) (h1 : kd = 2) (h2 : vname to = false) :
    Calls Tryz.prog 25 #[.int .i64 now, .agg #[.string nm, .int .i64 kd, .int .i64 tt, .int .i64 ad, .string to]] w (crPost (errV a) w) := by
  have HG := Lib.hid hg
  have HN := Lib.hid hn
  have HT := Lib.hid ht
  clear hg hn ht
  have HO := Lib.hid (Own.nil w none0)
  subst h1
  have H2 := Lib.hid h2
  clear h2
  obtain ⟨x1, hx1⟩ : ∃ y, w.alloc (.cells #[.string nm, .int .i64 2, .int .i64 tt, .int .i64 ad, .string to] 28) = y := ⟨_, rfl⟩
  obtain ⟨bx, hbx⟩ : ∃ y, w.heap.size = y := ⟨_, rfl⟩
  have hO := HO.out.alloc (.cells #[.string nm, .int .i64 2, .int .i64 tt, .int .i64 ad, .string to] 28)
  rw [hx1, hbx] at hO
  replace HO := Lib.hid (show Own w none0 x1 [blkR bx (.cells #[.string nm, .int .i64 2, .int .i64 tt, .int .i64 ad, .string to] 28)] from hO)
  clear hO
  have z0_0 : x1.cell? ⟨bx, 0, none⟩ = some (.string nm) := HO.out.cell 0 rfl 0 rfl
  have z0_1 : x1.cell? ⟨bx, 1, none⟩ = some (.int .i64 2) := HO.out.cell 0 rfl 1 rfl
  have z0_2 : x1.cell? ⟨bx, 2, none⟩ = some (.int .i64 tt) := HO.out.cell 0 rfl 2 rfl
  have z0_3 : x1.cell? ⟨bx, 3, none⟩ = some (.int .i64 ad) := HO.out.cell 0 rfl 3 rfl
  have z0_4 : x1.cell? ⟨bx, 4, none⟩ = some (.string to) := HO.out.cell 0 rfl 4 rfl
  have hg := keep HO.out.below HG.out
  go_enter Tryz.func25, Tryz.ntmps25
  go_wp2_with fail
  refine (vname_r H2.out HT.out _).mono ?_
  rintro e x8 ⟨rfl, hb⟩
  have hO := HO.out.stay hb
  replace HO := Lib.hid (show Own w none0 x8 [blkR bx (.cells #[.string nm, .int .i64 2, .int .i64 tt, .int .i64 ad, .string to] 28)] from hO)
  clear hO
  clear hg hb hx1 hbx z0_0 z0_1 z0_2 z0_3 z0_4
  have z0_0 : x8.cell? ⟨bx, 0, none⟩ = some (.string nm) := HO.out.cell 0 rfl 0 rfl
  have z0_1 : x8.cell? ⟨bx, 1, none⟩ = some (.int .i64 2) := HO.out.cell 0 rfl 1 rfl
  have z0_2 : x8.cell? ⟨bx, 2, none⟩ = some (.int .i64 tt) := HO.out.cell 0 rfl 2 rfl
  have z0_3 : x8.cell? ⟨bx, 3, none⟩ = some (.int .i64 ad) := HO.out.cell 0 rfl 3 rfl
  have z0_4 : x8.cell? ⟨bx, 4, none⟩ = some (.string to) := HO.out.cell 0 rfl 4 rfl
  have hg := keep HO.out.below HG.out
  go_wp2
  go_ret
  exact ⟨rfl, HO.out.below⟩
set_option maxHeartbeats 1000000 in
theorem chr_7 (now : Int) (nm : ByteArray) (kd tt ad : Int) (to : ByteArray) (a : Addr) (w : World) (hn : nm.size ≤ maxLen) (ht : to.size ≤ maxLen) (hg : w.cell? ⟨errG, 0, none⟩ = some (errV a)) (h1 : kd ≠ 1) (h2 : kd ≠ 2) :
    Calls Tryz.prog 25 #[.int .i64 now, .agg #[.string nm, .int .i64 kd, .int .i64 tt, .int .i64 ad, .string to]] w (crPost (errV a) w) := by
  have HG := Lib.hid hg
  have HN := Lib.hid hn
  have HT := Lib.hid ht
  clear hg hn ht
  have HO := Lib.hid (Own.nil w none0)
  obtain ⟨x1, hx1⟩ : ∃ y, w.alloc (.cells #[.string nm, .int .i64 kd, .int .i64 tt, .int .i64 ad, .string to] 28) = y := ⟨_, rfl⟩
  obtain ⟨bx, hbx⟩ : ∃ y, w.heap.size = y := ⟨_, rfl⟩
  have hO := HO.out.alloc (.cells #[.string nm, .int .i64 kd, .int .i64 tt, .int .i64 ad, .string to] 28)
  rw [hx1, hbx] at hO
  replace HO := Lib.hid (show Own w none0 x1 [blkR bx (.cells #[.string nm, .int .i64 kd, .int .i64 tt, .int .i64 ad, .string to] 28)] from hO)
  clear hO
  have z0_0 : x1.cell? ⟨bx, 0, none⟩ = some (.string nm) := HO.out.cell 0 rfl 0 rfl
  have z0_1 : x1.cell? ⟨bx, 1, none⟩ = some (.int .i64 kd) := HO.out.cell 0 rfl 1 rfl
  have z0_2 : x1.cell? ⟨bx, 2, none⟩ = some (.int .i64 tt) := HO.out.cell 0 rfl 2 rfl
  have z0_3 : x1.cell? ⟨bx, 3, none⟩ = some (.int .i64 ad) := HO.out.cell 0 rfl 3 rfl
  have z0_4 : x1.cell? ⟨bx, 4, none⟩ = some (.string to) := HO.out.cell 0 rfl 4 rfl
  have hg := keep HO.out.below HG.out
  go_enter Tryz.func25, Tryz.ntmps25
  go_wp2
  go_ret
  exact ⟨rfl, HO.out.below⟩
theorem chr_any (now : Int) (r : Rc) (a : Addr) (w : World) (hn : r.nm.size ≤ maxLen) (ht : r.to.size ≤ maxLen) (hg : w.cell? ⟨errG, 0, none⟩ = some (errV a)) :
    Calls Tryz.prog 25 #[.int .i64 now, rcV r] w (crPost (chkV (recB now r) a) w) := by
  rw [recB_eq]
  obtain ⟨nm, kd, tt, ad, to⟩ := r
  simp only [recA]
  by_cases k1 : kd = 1
  · have k2 : ¬ kd = 2 := by omega
    cases h2 : adrOk ad with
    | false => simpa [k1, k2, h2, chkV] using chr_3 now nm kd tt ad to a w hn ht hg k1 h2
    | true =>
      by_cases h3 : to.toList = []
      · simpa [k1, k2, h2, h3, chkV] using chr_1 now nm kd tt ad to a w hn ht hg k1 h2 h3
      · simpa [k1, k2, h2, h3, chkV] using chr_2 now nm kd tt ad to a w hn ht hg k1 h2 h3
  · by_cases k2 : kd = 2
    · cases h2 : vname to with
      | false => simpa [k1, k2, h2, chkV] using chr_6 now nm kd tt ad to a w hn ht hg k2 h2
      | true =>
        by_cases h3 : ad = 0
        · simpa [k1, k2, h2, h3, chkV] using chr_4 now nm kd tt ad to a w hn ht hg k2 h2 h3
        · simpa [k1, k2, h2, h3, chkV] using chr_5 now nm kd tt ad to a w hn ht hg k2 h2 h3
    · simpa [k1, k2, chkV] using chr_7 now nm kd tt ad to a w hn ht hg k1 k2
theorem chr_r {now : Int} {r : Rc} {b : Bool} (h : recB now r = b) (a : Addr) (w : World) (hn : r.nm.size ≤ maxLen) (ht : r.to.size ≤ maxLen) (hg : w.cell? ⟨errG, 0, none⟩ = some (errV a)) :
    Calls Tryz.prog 25 #[.int .i64 now, rcV r] w fun e w' => e = .returned (chkV b a) ∧ Below w.heap.size w w' := h ▸ chr_any now r a w hn ht hg

end Go.Proofs.YtapeljiopbkjlaaGreatDoor
