/- Contracts of the law's example and sanity: sanity returns true. -/
import Derived.Test.YtkhhmoijjidbbaaLawC
import Derived.Test.YtkhhmoijjidbbaaRoute7
namespace Go.Proofs.Ytkhhmoijjidbbaa
open Go.RowKit Go.Sort
set_option linter.unusedVariables false

def exF : List If := [⟨1, 167772161, nt 167772160 24, 24, 500⟩]
def exR : List Rt := [⟨0, 0, 167772414, 0⟩, ⟨nt 168361984 16, 16, 167772169, 0⟩]

theorem run_bsR2 (x0 x1 x2 x3 y0 y1 y2 y3 : Int) (w : World) : (Instr.buildSlice 33 2 #[(0, .agg #[.int .i64 x0, .int .i64 x1, .int .i64 x2, .int .i64 x3]), (1, .agg #[.int .i64 y0, .int .i64 y1, .int .i64 y2, .int .i64 y3])]).run Try.prog w = .ok (.slice (some ⟨w.heap.size, 0, none⟩) 2 2) (w.alloc (.cells #[.int .i64 x0, .int .i64 x1, .int .i64 x2, .int .i64 x3, .int .i64 y0, .int .i64 y1, .int .i64 y2, .int .i64 y3] 29)) := by kernel_rfl

/-- A block of cells, as interfaces. -/
theorem RdI_block {w : World} {b : Nat} {e : TypeId} {fs : List If} (h : w.heap[b]? = some (.cells (ifcs fs).toArray e)) (hl : fs.length ≤ 1000) : RdI w (.slice (some ⟨b, 0, none⟩) fs.length fs.length) fs := by
  refine RdI_of_owns (base := 0) (e := e) ⟨ifcs_len fs, .inr ⟨b, fs.length, _, rfl, Nat.zero_le _, h, Nat.le_refl _, ?_, ?_, ?_⟩⟩ hl
  · unfold maxLen; omega
  · simp [ifcs_len]
  · rw [← ifcs_len]; simp

def rtc (x : Rt) : List Value := [.int .i64 x.na, .int .i64 x.nb, .int .i64 x.via, .int .i64 x.face]
def rtcs (fs : List Rt) : List Value := fs.flatMap rtc
theorem rtcs_snoc (fs : List Rt) (x : Rt) : rtcs (fs ++ [x]) = rtcs fs ++ rtc x := by simp [rtcs]
theorem rtcs_len (fs : List Rt) : (rtcs fs).length = fs.length * 4 := by
  induction fs with
  | nil => rfl
  | cons a l ih => simp only [rtcs, List.flatMap_cons, List.length_append] at ih ⊢; rw [ih]; simp [rtc]; omega
theorem rtcs_get (fs : List Rt) (i : Nat) (h : i < fs.length) (j : Nat) (hj : j < 4) : (rtcs fs)[i * 4 + j]? = (rtc fs[i])[j]? := by
  induction fs generalizing i with
  | nil => simp at h
  | cons a l ih =>
    cases i with
    | zero =>
      simp only [rtcs, List.flatMap_cons, Nat.zero_mul, Nat.zero_add, List.getElem_cons_zero]
      rw [List.getElem?_append_left (by simp [rtc]; exact hj)]
    | succ i =>
      simp only [rtcs, List.flatMap_cons, List.getElem_cons_succ] at ih ⊢
      rw [List.getElem?_append_right (by simp [rtc]; omega), show (i + 1) * 4 + j - (rtc a).length = i * 4 + j by simp [rtc]; omega]
      exact ih i (by simpa using h)
theorem RdR_of_owns {w : World} {base : Nat} {e : TypeId} {v : Value} {fs : List Rt} (h : w.ownsRow base e 4 v fs.length (rtcs fs)) (hl : fs.length ≤ 1000) : RdR w v fs := by
  obtain ⟨h1, h2⟩ := h
  rcases h2 with ⟨rfl, hn⟩ | ⟨g, cap, cur, rfl, hg, hc, hcap, _, hsz, htk⟩
  · rw [show fs = [] from List.eq_nil_of_length_eq_zero hn]
    exact ⟨none, 0, rfl, Nat.le_refl _, by simp, fun h => absurd rfl h⟩
  · refine ⟨some ⟨g, 0, none⟩, cap, rfl, hcap, hl, fun _ => ⟨g, 0, rfl, fun i hi => ?_⟩⟩
    have key : ∀ j, j < 4 → w.cell? ⟨g, 0 + i * 4 + j, none⟩ = (rtc (rtAt fs i))[j]? := by
      intro j hj
      rw [rtAt_eq fs i hi, ← rtcs_get fs i hi j hj, ← htk, List.getElem?_take, if_pos (by have := Nat.mul_le_mul_right 4 hi; omega)]
      simp [World.cell?, hc]
    exact ⟨key 0 (by omega), key 1 (by omega), key 2 (by omega), key 3 (by omega)⟩
theorem RdR_block {w : World} {b : Nat} {e : TypeId} {fs : List Rt} (h : w.heap[b]? = some (.cells (rtcs fs).toArray e)) (hl : fs.length ≤ 1000) : RdR w (.slice (some ⟨b, 0, none⟩) fs.length fs.length) fs := by
  refine RdR_of_owns (base := 0) (e := e) ⟨rtcs_len fs, .inr ⟨b, fs.length, _, rfl, Nat.zero_le _, h, Nat.le_refl _, ?_, ?_, ?_⟩⟩ hl
  · unfold maxLen; omega
  · simp [rtcs_len]
  · rw [← rtcs_len]; simp
theorem RdR_nil (w : World) : RdR w (.slice none 0 0) [] := ⟨none, 0, rfl, Nat.le_refl _, by simp, fun h => absurd rfl h⟩
theorem RdI_nil (w : World) : RdI w (.slice none 0 0) [] := ⟨none, 0, rfl, Nat.le_refl _, by simp, fun h => absurd rfl h⟩

set_option maxHeartbeats 1000000 in
theorem example_any (w : World) :
    Calls Try.prog 22 #[] w fun e w' => ∃ u b, e = .returned (.tuple #[.slice (some ⟨u, 0, none⟩) 1 1, .slice (some ⟨b, 0, none⟩) 2 2]) ∧ RdI w' (.slice (some ⟨u, 0, none⟩) 1 1) exF ∧ RdR w' (.slice (some ⟨b, 0, none⟩) 2 2) exR ∧ Below w.heap.size w w' := by
  have r1 := fun w => run_bs1 1 167772161 (nt 167772160 24) 24 500 w
  have r2 := fun w => run_bsR2 0 0 167772414 0 (nt 168361984 16) 16 167772169 0 w
  go_enter Try.func22, Try.ntmps22
  go_wp2_with fail
  refine (lnet_any 167772160 24 _ (by decide) (by decide)).mono ?_
  rintro e w1 ⟨rfl, hb1⟩
  go_wp2_with fail
  refine (lnet_any 168361984 16 _ (by decide) (by decide)).mono ?_
  rintro e w2 ⟨rfl, hb2⟩
  go_wp2
  go_ret2
  have hI : RdI (w1.alloc (.cells (ifcs exF).toArray 27)) (.slice (some ⟨w1.heap.size, 0, none⟩) 1 1) exF := RdI_block (fs := exF) (new_block _ _) (by decide)
  refine ⟨w1.heap.size, w2.heap.size, rfl, (hI.stay hb2).stay ((Below.refl _ _).alloc (Nat.le_refl _) _), RdR_block (fs := exR) (new_block _ _) (by decide), ?_⟩
  exact ((hb1.alloc hb1.size _).trans (hb2.mono (by have := hb1.size; simp; omega))).alloc (by have := hb1.size; have := hb2.size; simp at *; omega) _

end Go.Proofs.Ytkhhmoijjidbbaa
