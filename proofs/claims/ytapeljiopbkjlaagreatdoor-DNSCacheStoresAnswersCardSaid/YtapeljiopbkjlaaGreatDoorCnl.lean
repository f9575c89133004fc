/- Contracts of New and Len of dnscache. -/
import Derived.Test.YtapeljiopbkjlaaGreatDoorCrm
namespace Go.Proofs.YtapeljiopbkjlaaGreatDoor
open Go.RowKit Go.Sort
set_option linter.unusedVariables false
set_option maxRecDepth 100000

theorem run_bdC0 (w : World) : (Instr.build 69 #[]).run Tryz.prog w = .ok (.agg #[.slice none 0 0]) w := by kernel_rfl
def CNewO (w0 : World) (D : Nat → Prop) (L : List Res) (w : World) (e : Ending) (w' : World) : Prop := ∃ c, e = .returned (.pointer (some ⟨c, 0, none⟩)) ∧ Own w0 D w' (L ++ [resC c []]) ∧ w.heap.size ≤ w'.heap.size
section
variable {w0 w : World} {D : Nat → Prop} {L : List Res} {c : Nat} {l : List En}
theorem cnew_o (h : Own w0 D w L) : Calls Tryz.prog 9 #[] w (CNewO w0 D L w) := by
  have HO := Lib.hid h
  clear h
  have rb := run_bdC0
  obtain ⟨x1, hx1⟩ : ∃ y, w.alloc (.cells #[.slice none 0 0] 69) = y := ⟨_, rfl⟩
  obtain ⟨c, hc⟩ : ∃ y, w.heap.size = y := ⟨_, rfl⟩
  have hO := (HO.out.alloc (.cells #[.slice none 0 0] 69)).rowNew 78 5
  rw [hx1, hc] at hO
  have HO2 := Lib.hid (show Own w0 D x1 (L ++ [resC c []]) from Own.rot (L := [resC c []]) (shutC' (l := []) (v := .slice none 0 0) (Own.rot (L := L) (by simpa using hO))))
  have HS := Lib.hid (show w.heap.size ≤ x1.heap.size by rw [← hx1]; simp)
  clear hO
  go_enter Tryz.func9, Tryz.ntmps9
  go_wp2
  go_ret
  exact ⟨c, rfl, HO2.out, HS.out⟩
theorem clen_o (h : Own w0 D w L) (i : Nat) (hi : L[i]? = some (resC c l)) : Calls Tryz.prog 12 #[.pointer (some ⟨c, 0, none⟩)] w (OPost w0 D L (.int .i64 l.length) w) := by
  refine o_read h hi fun F hF => ?_
  obtain ⟨v, hO⟩ := openC' (Own.one hF)
  obtain ⟨a, cap, hv⟩ := row_shape (hO.row 1 rfl)
  obtain ⟨n, hn⟩ : ∃ n, l.length = n := ⟨_, rfl⟩
  rw [hn] at hv ⊢
  subst hv
  have c1 : w.cell? ⟨c, 0, none⟩ = some (.slice a n cap) := hO.cell 0 rfl 0 rfl
  clear hO hn hF h hi
  go_enter Tryz.func12, Tryz.ntmps12
  go_wp2
  go_ret
  exact ⟨rfl, Below.refl _ _⟩
theorem clen_r {n : Nat} (h : Own w0 D w L) (i : Nat) (hi : L[i]? = some (resC c l)) (hn : l.length = n) : Calls Tryz.prog 12 #[.pointer (some ⟨c, 0, none⟩)] w (OPost w0 D L (.int .i64 n) w) := hn ▸ clen_o h i hi
end

end Go.Proofs.YtapeljiopbkjlaaGreatDoor
