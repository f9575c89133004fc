/- Contracts of Clone and New; In, Out and Quoted while the table has room. Printed by wip/tools/gen22l.py. -/
import Derived.Test.YtjngfhgcifhioaaFw9
import Derived.Test.YtjngfhgcifhioaaFrow
import Derived.Test.YtjngfhgcifhioaaTbl
import Derived.Test.YtjngfhgcifhioaaOwnP
namespace Go.Proofs.Ytjngfhgcifhioaa
open Go.RowKit Go.Sort
set_option linter.unusedVariables false
set_option maxRecDepth 100000

theorem row_news {w : World} {E sz n : Nat} {g cap : Nat} {xs : List Value} (h : w.ownsRow 0 E sz (.slice (some ⟨g, 0, none⟩) n cap) n xs) : ∀ j u, xs[j]? = some u → w.cell? ((⟨g, 0, none⟩ : Addr).add j) = some u := by
  obtain ⟨h1, ⟨e, _⟩ | ⟨g', cp, cur, e, _, hh, hcp, _, hs, htk⟩⟩ := h
  · cases e
  · cases e
    intro j u hj
    rw [show (⟨g, 0, none⟩ : Addr).add j = ⟨g, j, none⟩ by
      unfold Addr.add
      split
      · rename_i h; have : j = 0 := by simpa using h
        subst this; rfl
      · simp]
    have hjl : j < n * sz := by
      rcases Nat.lt_or_ge j (n * sz) with h | h
      · exact h
      · rw [List.getElem?_eq_none (by omega)] at hj; cases hj
    rw [← htk, List.getElem?_take, if_pos hjl] at hj
    simp [World.cell?, hh]
    simpa using hj
theorem run_bsE (w : World) : (Instr.buildSlice 68 0 #[]).run Try.prog w = .ok (.slice (some ⟨w.heap.size, 0, none⟩) 0 0) (w.alloc (.cells #[] 74)) := by kernel_rfl
theorem cRl_one (l : List Rl) : ∀ u ∈ l.flatMap cRl, u.oneCell' = true := by
  intro u hu
  obtain ⟨r, _, hr⟩ := List.mem_flatMap.1 hu
  simp [cRl] at hr
  rcases hr with h | h | h | h | h | h | h <;> (subst h; rfl)
def CloneO (w0 : World) (D : Nat → Prop) (L : List Res) (l : List Rl) (w : World) (e : Ending) (w' : World) : Prop := ∃ u, e = .returned u ∧ Own w0 D w' (L ++ [rowRl u l]) ∧ w.heap.size ≤ w'.heap.size
section
variable {w0 w : World} {D : Nat → Prop} {L : List Res} {v : Value} {l : List Rl}
theorem rules_eql (g n c : Nat) (w : World) : (binOp .eql 68 (.slice (some ⟨g, 0, none⟩) n c) (.slice none 0 0)).run Try.prog w = .ok (.bool false) w := by kernel_rfl
theorem rules_eq0 (w : World) : (binOp .eql 68 (.slice none 0 0) (.slice none 0 0)).run Try.prog w = .ok (.bool true) w := by kernel_rfl
set_option maxHeartbeats 4000000 in
theorem clone_o (h : Own w0 D w L) (i : Nat) (hi : L[i]? = some (rowRl v l)) (hl : l.length ≤ 1000) :
    Calls Try.prog 21 #[v] w (CloneO w0 D L l w) := by
  have hr := h.row i hi
  have HO := Lib.hid h
  have HI := Lib.hid hi
  have HL := Lib.hid hl
  clear h hi hl
  obtain ⟨h1, ⟨rfl, hn⟩ | ⟨g, cp, cur, rfl, h2, h3, h4, h5, h6, h7⟩⟩ := hr
  · have HE := Lib.hid (show l = [] from List.eq_nil_of_length_eq_zero hn)
    clear h1 hn HI HL
    have e0 := rules_eq0
    go_enter Try.func21, Try.ntmps21
    go_wp2
    go_ret
    exact ⟨_, rfl, by rw [HE.out]; exact HO.out.rowNew _ _, Nat.le_refl _⟩
  · clear h1 h2 h3 h4 h5 h6 h7
    obtain ⟨n, hn⟩ : ∃ n, l.length = n := ⟨_, rfl⟩
    have HN := Lib.hid hn
    rw [hn] at HI ⊢
    clear hn
    have rb := run_bsE
    have e0 := rules_eql
    obtain ⟨x1, hx1⟩ : ∃ y, w.alloc (.cells #[] 74) = y := ⟨_, rfl⟩
    have hb := below_one w (.cells #[] 74)
    rw [hx1] at hb
    have hO := HO.out.push (w' := x1) (R := rowR (.slice (some ⟨w.heap.size, 0, none⟩) 0 0) 74 7 0 []) (F := fun b => b = w.heap.size) ⟨fun b => ⟨fun h => by rw [h]; rfl, fun h => by injection h with h; exact h.symm⟩, ⟨rfl, .inr ⟨w.heap.size, 0, #[], rfl, Nat.zero_le _, by rw [← hx1]; exact new_block _ _, Nat.le_refl _, by unfold maxLen; omega, rfl, rfl⟩⟩⟩ (fun b hb => hb ▸ Nat.le_refl _) hb
    have HO2 := Lib.hid hO
    have HSZ := Lib.hid hb.size
    clear hO hb
    have HI2 := Lib.hid (show (L ++ [rowR (.slice (some ⟨w.heap.size, 0, none⟩) 0 0) 74 7 0 []])[i]? = some (rowR (.slice (some ⟨g, 0, none⟩) n cp) 74 7 n (l.flatMap cRl)) by
      rw [List.getElem?_append_left (get_len HI.out), HI.out, ← HN.out])
    have HIL := Lib.hid (show (L ++ [rowR (.slice (some ⟨w.heap.size, 0, none⟩) 0 0) 74 7 0 []])[L.length]? = some (rowR (.slice (some ⟨w.heap.size, 0, none⟩) 0 0) 74 7 0 []) by simp)
    go_enter Try.func21, Try.ntmps21
    go_wp2_with ((at_builtin; refine (show _ = True → _ from fun h => of_eq_true h) ?_))
    refine eq_true ?_
    obtain ⟨i0, hi0, hz0, hz1, hz2⟩ := info_parts infoRl
    refine wpList_app rfl (.tmp 5) (.tmp 6) 68 rfl Try.underlying68 hi0 hz0 hz1 hz2 rfl (by decide) rfl (HO2.out.row L.length HIL.out) (l.flatMap cRl) rfl (by have := (HO2.out.row i HI2.out).1; exact this) (row_news (HO2.out.row i HI2.out)) (cRl_one l) (by have := HN.out; have := HL.out; unfold maxLen; omega) (by have := HN.out; have := HL.out; omega) (Nat.zero_le _) ?_
    intro v' w' hown hu hnear
    have hO := HO2.out.rowTo L.length HIL.out hown hu (fun g hg => by
      rcases hnear with h2 | h2 | ⟨g2, h2, h3⟩
      · rw [h2] at hg; cases hg
      · exact .inl (h2 ▸ hg)
      · rw [h2] at hg; cases hg; exact .inr h3)
    have HO3 := Lib.hid (show Own w0 D w' (L ++ [rowRl v' l]) by
      rw [Nat.zero_add, List.nil_append] at hO
      rw [List.set_append_right _ _ (Nat.le_refl _), Nat.sub_self] at hO
      show Own w0 D w' (L ++ [rowR v' 74 7 l.length (l.flatMap cRl)])
      rw [HN.out]
      exact hO)
    have HSZ2 := Lib.hid (Nat.le_trans HSZ.out hu.size)
    clear hO hown hu hnear hi0 hz0 hz1 hz2 rb e0
    go_wp2
    go_ret
    exact ⟨_, rfl, HO3.out, HSZ2.out⟩
def FNewO (w0 : World) (D : Nat → Prop) (L : List Res) (l : List Rl) (w : World) (e : Ending) (w' : World) : Prop := ∃ f, e = .returned (.tuple #[.pointer (some ⟨f, 0, none⟩), .int .i64 0]) ∧ Own w0 D w' (L ++ [resF f ⟨l, [], 0⟩]) ∧ w.heap.size ≤ w'.heap.size
theorem check_r {w : World} {v : Value} {l : List Rl} {c : Int} (hc : checkE l = c) (hr : w.ownsRow 0 74 7 v l.length (l.flatMap cRl)) (hl : l.length ≤ 1000) :
    Calls Try.prog 20 #[v] w fun e w' => e = .returned (.int .i64 c) ∧ Below w.heap.size w w' := hc ▸ check_any l hr hl
theorem run_bdF (a : Option Addr) (n c : Nat) (w : World) : (Instr.build 77 #[(0, .slice a n c)]).run Try.prog w = .ok (.agg #[.slice a n c, .map none, .int .i64 0]) w := by kernel_rfl
set_option maxHeartbeats 4000000 in
theorem new_ok (h : Own w0 D w L) (i : Nat) (hi : L[i]? = some (rowRl v l)) (hl : l.length ≤ 1000) (hc : checkE l = 0) :
    Calls Try.prog 7 #[v] w (FNewO w0 D L l w) := by
  have HO := Lib.hid h
  have HI := Lib.hid hi
  have HL := Lib.hid hl
  have HC := Lib.hid hc
  clear h hi hl hc
  go_enter Try.func7, Try.ntmps7
  go_wp2_with fail
  refine (o_still HO.out (check_r HC.out (HO.out.row i HI.out) HL.out)).mono ?_
  rintro e x1 ⟨rfl, hO, hs1⟩
  have HO1 := Lib.hid hO
  have HS1 := Lib.hid hs1
  clear hO hs1
  go_wp2_with fail
  refine (clone_o HO1.out i HI.out HL.out).mono ?_
  rintro e x2 ⟨u, rfl, hO, hs2⟩
  have HO2 := Lib.hid hO
  have HS2 := Lib.hid hs2
  obtain ⟨ua, uc, hu, -⟩ := row_at (c := cRl) (l := l) (fun x => rfl) (hO.row L.length (show (L ++ [rowRl u l])[L.length]? = some (rowRl u l) by simp)) rfl
  obtain ⟨un, hun⟩ : ∃ n, l.length = n := ⟨_, rfl⟩
  rw [hun] at hu
  obtain ⟨uv, huv⟩ : ∃ uv, uv = u := ⟨_, rfl⟩
  subst hu
  clear hO hs2 hun huv
  have hbd := run_bdF
  obtain ⟨x3, hx3⟩ : ∃ y, x2.alloc (.cells #[.slice ua un uc, .map none, .int .i64 0] 77) = y := ⟨_, rfl⟩
  obtain ⟨f, hf⟩ : ∃ y, x2.heap.size = y := ⟨_, rfl⟩
  have hb := below_one x2 (.cells #[.slice ua un uc, .map none, .int .i64 0] 77)
  have hO := mapO_none (HO2.out.alloc (.cells #[.slice ua un uc, .map none, .int .i64 0] 77))
  rw [hx3, hf] at hO
  rw [hx3] at hb
  have HSZ := Lib.hid hb.size
  have HO3 := Lib.hid (show Own w0 D x3 (L ++ [resF f ⟨l, [], 0⟩]) from by
    have h5 : Own w0 D x3 ([rowRl (.slice ua un uc) l, blkF f (.slice ua un uc) (.map none) 0, mapO (.map none) []] ++ L) := Own.rot (by simpa using hO)
    have h6 := shutF' (st := ⟨l, [], 0⟩) (Own.swap (pre := []) h5)
    exact Own.rot (L := [resF f ⟨l, [], 0⟩]) h6)
  clear hO hb
  go_wp2
  go_ret2
  exact ⟨f, rfl, HO3.out, by have := HS1.out; have := HS2.out; have := HSZ.out; omega⟩
set_option maxHeartbeats 4000000 in
theorem new_bad (h : Own w0 D w L) (i : Nat) (hi : L[i]? = some (rowRl v l)) (hl : l.length ≤ 1000) (hc : checkE l = 220) :
    Calls Try.prog 7 #[v] w (OPost w0 D L (.tuple #[.pointer none, .int .i64 220]) w) := by
  have HO := Lib.hid h
  have HI := Lib.hid hi
  have HL := Lib.hid hl
  have HC := Lib.hid hc
  clear h hi hl hc
  go_enter Try.func7, Try.ntmps7
  go_wp2_with fail
  refine (o_still HO.out (check_r HC.out (HO.out.row i HI.out) HL.out)).mono ?_
  rintro e x1 ⟨rfl, hO, hs1⟩
  have HO1 := Lib.hid hO
  have HS1 := Lib.hid hs1
  clear hO hs1
  go_wp2
  go_ret2
  exact ⟨rfl, HO1.out, HS1.out⟩
end

end Go.Proofs.Ytjngfhgcifhioaa
