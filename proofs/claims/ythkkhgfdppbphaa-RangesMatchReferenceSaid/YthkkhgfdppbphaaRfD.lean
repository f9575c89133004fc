/- Contracts of the reference functions of layer 12, fourth part: Gaps. -/
import Derived.Test.YthkkhgfdppbphaaRfC
namespace Go.Proofs.Ythkkhgfdppbphaa
open Go.RowKit Go.Sort Go.Shelf
set_option linter.unusedVariables false
attribute [local go_sem] Oper.semAt_some

theorem oneF_len (x : Sp) : (oneF x).length ≤ 1 := Nat.le_trans (List.length_filter_le _ _) (by simp)
theorem gapL_len2 (s : Sp) : ∀ (l : List Sp) (a : Int), (gapL s a l).length ≤ l.length + 1
  | [], a => by simp only [gapL]; have := oneF_len ⟨a, s.to⟩; simp; omega
  | x :: l, a => by
    unfold gapL
    split
    · have := gapL_len2 s l a; simp; omega
    · split
      · have := oneF_len ⟨a, s.to⟩; simp; omega
      · have := oneF_len ⟨a, x.fr⟩; have := gapL_len2 s l x.to; simp; omega
theorem gap_step {l : List Sp} {s : Sp} (hc : canF (-1) l = true) (hs : okS (-1) s = true) (k : Nat) (h : k < l.length) : remF (gapL s s.fr (l.take k)) (spAt l k) = gapL s s.fr (l.take (k + 1)) := by
  have hs' := okS_iff.1 hs
  have hx := can_all hc (spAt l k) (by rw [spAt_eq l k h]; exact List.getElem_mem _)
  have hg1 : canF (-1) (gapL s s.fr (l.take k)) = true := gapL_can (can_take k hc) (by omega) (by omega) (by omega)
  have hg2 : canF (-1) (gapL s s.fr (l.take (k + 1))) = true := gapL_can (can_take (k + 1) hc) (by omega) (by omega) (by omega)
  have ht : takB (gapL s s.fr (l.take k)) (spAt l k) = true := by
    rw [takB, hg1, okS_iff.2 ⟨by omega, by omega, by omega, by omega⟩]; rfl
  rw [remF, if_pos ht]
  refine can_ext (remL_can hg1 (by omega)) hg2 fun n => ?_
  rw [remL_mem hg1 (by omega) n, gapL_mem (can_take k hc) n, gapL_mem (can_take (k + 1) hc) n, List.take_succ_eq_append_getElem h, mem_app, ← spAt_eq l k h, mem_cons]
  constructor
  · rintro ⟨⟨h1, h2⟩, h3⟩
    refine ⟨h1, ?_⟩
    rintro (h | h | h)
    · exact h2 h
    · exact h3 h
    · exact mem_nil _ h
  · rintro ⟨h1, h2⟩
    exact ⟨⟨h1, fun h => h2 (.inl h)⟩, fun h => h2 (.inr (.inl h))⟩

theorem rgaps_no (l : List Sp) (s : Sp) (v : Value) (w : World) (h : RdS w v l) (hc : takB l s = false) :
    Calls Try.prog 24 #[v, spV s] w (ListPost w (gapF l s)) := by
  have hR := h
  obtain ⟨a, cap, rfl, hcap, hlen, hp⟩ := h
  clear hp
  obtain ⟨fr, tt⟩ := s
  obtain ⟨d0, d1⟩ := box1 w fr tt 24
  have hb0 : Below w.heap.size w (w.alloc (.cells #[.int .i64 fr, .int .i64 tt] 24)) := (Below.refl _ _).alloc (Nat.le_refl _) _
  have D0 := Lib.hid d0
  have D1 := Lib.hid d1
  clear d0 d1
  have HR := Lib.hid (show gapF l ⟨fr, tt⟩ = [] by simp [gapF, hc])
  rcases tak_no hc with hv | ⟨hv, ho⟩
  · go_enter Try.func24, Try.ntmps24
    go_wp2_with fail
    refine (rvalid_r hv _ _ (hR.stay hb0)).mono ?_
    rintro e w1 ⟨rfl, hb⟩
    replace hb0 := below_mid hb0 hb
    go_wp2
    go_ret
    exact ⟨_, rfl, by rw [HR.out]; exact RdS_nil _, hb0⟩
  · go_enter Try.func24, Try.ntmps24
    go_wp2_with fail
    refine (rvalid_r hv _ _ (hR.stay hb0)).mono ?_
    rintro e w1 ⟨rfl, hb⟩
    have c0 := keep hb D0.out
    have c1 := keep hb D1.out
    replace hb0 := below_mid hb0 hb
    clear hb D0 D1
    go_wp2_with fail
    refine (rone_r ho _).mono ?_
    rintro e w2 ⟨rfl, hb⟩
    replace hb0 := below_mid hb0 hb
    go_wp2
    go_ret
    exact ⟨_, rfl, by rw [HR.out]; exact RdS_nil _, hb0⟩

set_option maxHeartbeats 4000000 in
theorem rgaps_yes (l : List Sp) (s : Sp) (v : Value) (w : World) (h : RdS w v l) (hll : l.length ≤ 900) (hc : takB l s = true) :
    Calls Try.prog 24 #[v, spV s] w (ListPost w (gapF l s)) := by
  have hR := h
  obtain ⟨a, cap, rfl, hcap, hlen, hp⟩ := h
  have HP := Lib.hid hp
  clear hp
  obtain ⟨fr, tt⟩ := s
  obtain ⟨d0, d1⟩ := box1 w fr tt 24
  have hb0 : Below w.heap.size w (w.alloc (.cells #[.int .i64 fr, .int .i64 tt] 24)) := (Below.refl _ _).alloc (Nat.le_refl _) _
  have D0 := Lib.hid d0
  have D1 := Lib.hid d1
  clear d0 d1
  have HR := Lib.hid (show gapF l ⟨fr, tt⟩ = gapL ⟨fr, tt⟩ fr l by simp [gapF, hc])
  obtain ⟨hv, ho⟩ := tak_yes hc
  clear hc
  have HG := Lib.hid (gap_step hv ho)
  have HL := Lib.hid (gapL_len2 ⟨fr, tt⟩)
  have H1 := Lib.hid (show gapL ⟨fr, tt⟩ fr (l.take 0) = [⟨fr, tt⟩] by simp only [List.take_zero, gapL]; exact oneF_yes (okS_iff.1 ho).2.2.1)
  have rb := run_bsS1
  go_enter Try.func24, Try.ntmps24
  go_wp2_with fail
  refine (rvalid_r hv _ _ (hR.stay hb0)).mono ?_
  rintro e w1 ⟨rfl, hb⟩
  have c0 := keep hb D0.out
  have c1 := keep hb D1.out
  replace hb0 := below_mid hb0 hb
  clear hb D0 D1
  go_wp2_with fail
  refine (rone_r ho _).mono ?_
  rintro e w2 ⟨rfl, hb⟩
  replace hb0 := below_mid hb0 hb
  replace c0 := keep hb c0
  replace c1 := keep hb c1
  clear hb hv ho
  go_wp2
  clear rb
  replace hb0 := below_mid hb0 ((Below.refl _ w2).alloc (Nat.le_refl _) (.cells #[.int .i64 fr, .int .i64 tt] 24))
  have hR1 := RdS_one w2 ⟨fr, tt⟩
  go_loopw [5, 6] (fun out i wr => ∃ k : Nat, k ≤ l.length ∧ i = .int .i64 k ∧ RdS wr out (gapL ⟨fr, tt⟩ fr (l.take k)) ∧ Below w.heap.size w wr) (fun _ i _ => l.length - (intOf i).toNat)
  case atStart => exact ⟨0, Nat.zero_le _, rfl, by rw [H1.out]; exact hR1, hb0⟩
  case round =>
    obtain ⟨k, hk, rfl, hro, hb⟩ := hrel
    have hrl := HL.out (l.take k) fr
    have htl : (l.take k).length = k := by simp; omega
    rw [htl] at hrl
    clear htl hR1 c0 c1
    by_cases hlt : k < l.length
    · obtain ⟨b, o, rfl, hcc⟩ := HP.out (by omega)
      obtain ⟨x0, x1⟩ := (hcc k hlt).stay hb
      have HS := Lib.hid (HG.out k hlt)
      have hkc : k ≤ cap := by omega
      clear hcc
      generalize spAt l k = x at *
      obtain ⟨xf, xt⟩ := x
      simp only at x0 x1
      generalize gapL ⟨fr, tt⟩ fr (l.take k) = gk at *
      go_wp2_with fail
      refine (rremove_any gk ⟨xf, xt⟩ _ _ hro (by omega)).mono ?_
      rintro e w3 ⟨v3, rfl, hr3, hb3⟩
      replace hb := below_mid hb hb3
      clear hro hb3
      go_wp2
      go_roundw
      case rel => exact ⟨k + 1, by omega, by go_num, by rw [← HS.out]; exact hr3, hb⟩
      case measure => simp [intOf]; omega
    · have HT := Lib.hid (show l.take k = l from List.take_of_length_le (by omega))
      have HW := Lib.hid hro
      clear hro
      go_wp2
      go_ret
      exact ⟨_, rfl, by rw [HR.out, ← HT.out]; exact HW.out, hb⟩
theorem rgaps_any (l : List Sp) (s : Sp) (v : Value) (w : World) (h : RdS w v l) (hll : l.length ≤ 900) : Calls Try.prog 24 #[v, spV s] w (ListPost w (gapF l s)) := by
  cases hc : takB l s
  · exact rgaps_no l s v w h hc
  · exact rgaps_yes l s v w h hll hc

end Go.Proofs.Ythkkhgfdppbphaa
