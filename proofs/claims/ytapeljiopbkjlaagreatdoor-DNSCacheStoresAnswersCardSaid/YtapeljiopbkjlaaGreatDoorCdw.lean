/- Contract of slices.Delete of one entry. The walk of slices.Delete of one entry. Printed by wip/tools/gen20e.py. -/
import Derived.Test.YtapeljiopbkjlaaGreatDoorCnl
import Derived.ArgAppend
namespace Go.Proofs.YtapeljiopbkjlaaGreatDoor
open Go.RowKit Go.Sort
set_option linter.unusedVariables false
set_option maxRecDepth 100000

theorem setL_get : ∀ (us xs : List Value) (o : Nat), o + us.length ≤ xs.length → setL xs o us = xs.take o ++ us ++ xs.drop (o + us.length)
  | [], xs, o, h => by simp [setL]
  | u :: us, xs, o, h => by
    simp only [List.length_cons] at h
    rw [setL, setL_get us _ _ (by simp; omega)]
    rw [List.take_set, List.drop_set_of_lt (by omega)]
    have h1 : (xs.take (o + 1)).set o u = xs.take o ++ [u] := by
      rw [List.take_succ_eq_append_getElem (by omega)]
      rw [List.set_append_right _ _ (by simp; omega)]
      simp [Nat.min_eq_left (show o ≤ xs.length by omega)]
    rw [h1]
    simp [Nat.add_assoc, Nat.add_comm 1]
theorem infoEn : (Tryz.prog.info? 78).map (fun i => (i.zero, i.size, i.bytes)) = some (some (.agg #[.string ⟨#[]⟩, .int .i64 0, .int .i64 0, .string ⟨#[]⟩, .int .i64 0]), 5, 56) := by kernel_rfl
theorem cEn_one (l : List En) : ∀ u ∈ l.flatMap cEn, u.oneCell' = true := by
  intro u hu
  obtain ⟨r, _, hr⟩ := List.mem_flatMap.1 hu
  simp [cEn] at hr
  rcases hr with h | h | h | h | h <;> (subst h; rfl)
theorem flat_drop (l : List En) (j : Nat) : (l.drop j).flatMap cEn = (l.flatMap cEn).drop (j * 5) := by
  induction j generalizing l with
  | zero => simp
  | succ j ih =>
    cases l with
    | nil => simp
    | cons x l =>
      simp only [List.drop_succ_cons, List.flatMap_cons]
      rw [ih, Nat.add_mul, Nat.one_mul, Nat.add_comm, List.drop_append]
      simp [cEn]
theorem erase_flat {l : List En} {i : Nat} (hi : i < l.length) : (l.eraseIdx i).flatMap cEn = (l.flatMap cEn).take (i * 5) ++ (l.flatMap cEn).drop ((i + 1) * 5) := by
  rw [List.eraseIdx_eq_take_drop_succ, List.flatMap_append, flat_take cEn 5 (fun _ => rfl), flat_drop]
/-- Behind the shift and the clearing the row holds the others. -/
theorem dele_end {w0 w : World} {F : Nat → Prop} {g n cap i : Nat} {l : List En} (h : Own w0 F w [rowE (.slice (some ⟨g, 0, none⟩) n cap) l]) (hl : l.length = n) (hi : i < n) (zs : List Value) :
    Own w0 F ((w.setCells g (i * 5) ((l.drop (i + 1)).flatMap cEn)).setCells g ((n - 1) * 5) zs) [rowE (.slice (some ⟨g, 0, none⟩) (n - 1) cap) (l.eraseIdx i)] := by
  have h1 : Own w0 F w [rowR (.slice (some ⟨g, 0, none⟩) n cap) 78 5 n (l.flatMap cEn)] := by rw [← hl]; rw [← hl] at h; exact h
  have hfl : (l.flatMap cEn).length = n * 5 := (h1.row 0 rfl).1
  have h2 := Own.rowSets 0 ((l.drop (i + 1)).flatMap cEn) (i * 5) h1 rfl
  have h3 := Own.rowSets 0 zs ((n - 1) * 5) h2 rfl
  have h4 := Own.rowCut (n := n) h3 0 rfl (n - 1) (by omega)
  have hdl : ((l.drop (i + 1)).flatMap cEn).length = (n - 1 - i) * 5 := by rw [flat_drop, List.length_drop, hfl]; omega
  have e : (setL (l.flatMap cEn) (i * 5) ((l.drop (i + 1)).flatMap cEn)).take ((n - 1) * 5) = (l.eraseIdx i).flatMap cEn := by
    rw [setL_get _ _ _ (by rw [hdl, hfl]; omega), erase_flat (by omega), ← flat_drop]
    rw [List.take_append_of_le_length (by rw [List.length_append, List.length_take, hdl, hfl]; omega)]
    rw [List.take_of_length_le (by rw [List.length_append, List.length_take, hdl, hfl]; omega)]
  rw [setL_take _ _ _ _ (Nat.le_refl _), e] at h4
  have hle : (l.eraseIdx i).length = n - 1 := by rw [List.length_eraseIdx_of_lt (by omega)]; omega
  show Own w0 F _ [rowR _ _ _ _ _]
  rw [hle]
  exact h4

end Go.Proofs.YtapeljiopbkjlaaGreatDoor

namespace Go.Proofs.YtapeljiopbkjlaaGreatDoor
open Go.RowKit Go.Sort
set_option linter.unusedVariables false
set_option maxRecDepth 100000

theorem ad_mk (b o j : Nat) : (⟨b, o, none⟩ : Addr).add j = ⟨b, o + j, none⟩ := by
  unfold Addr.add
  split
  · rename_i h; have : j = 0 := by simpa using h
    subst this; rfl
  · rfl
theorem dele_app {w0 w5 : World} {F : Nat → Prop} {g n cap i : Nat} {l : List En} (h : Own w0 F w5 [rowR (.slice (some ⟨g, 0, none⟩) n cap) 78 5 n (l.flatMap cEn)]) (hn : l.length = n) (hi : i < n) (hcap : n ≤ cap) (ty : TypeId) (a : Nat) (c : Nat) (ha : a = (i + 1) * 5 ∨ n = i + 1) :
    (Builtin.append_ #[65, 65] ty #[.slice (some ⟨g, 0, none⟩) i cap, .slice (some ⟨g, a, none⟩) (n - (i + 1)) c]).run Tryz.prog w5 = .ok (.slice (some ⟨g, 0, none⟩) (n - 1) cap) (w5.setCells g (i * 5) ((l.drop (i + 1)).flatMap cEn)) := by
  obtain ⟨i0, hi0, hz0, hz1, hz2⟩ := info_parts infoEn
  have hrc := row_cells (h.row 0 rfl)
  have hfl : (l.flatMap cEn).length = n * 5 := (h.row 0 rfl).1
  have hdl : ((l.drop (i + 1)).flatMap cEn).length = (n - (i + 1)) * 5 := by rw [flat_drop, List.length_drop, hfl]; omega
  have hr := run_append_room_cells (P := Tryz.prog) w5 65 ty 78 i0 Tryz.underlying65 hi0 g 0 i cap ⟨g, a, none⟩ (n - (i + 1)) c ((l.drop (i + 1)).flatMap cEn) (by rw [hdl, hz1]) (fun q u hq => by
    rcases ha with rfl | ha
    · rw [ad_mk]
      refine hrc.1 _ _ ?_
      rw [flat_drop, List.getElem?_drop] at hq
      exact hq
    · rw [List.getElem?_eq_none (by rw [hdl, ha]; simp)] at hq; cases hq) (cEn_one _) (by omega) (fun q hq => by
    rw [hdl] at hq
    rw [hz1, hrc.1 (0 + i * 5 + q) _ (List.getElem?_eq_getElem (by rw [hfl]; omega))]; rfl) (fun q _ => hrc.2 _)
  rw [hz1, Nat.zero_add, show i + (n - (i + 1)) = n - 1 by omega] at hr
  exact hr
theorem dele_clr {w0 x6 : World} {F : Nat → Prop} {g n cap : Nat} {xs : List Value} (h : Own w0 F x6 [rowR (.slice (some ⟨g, 0, none⟩) n cap) 78 5 n xs]) (hn : 0 < n) (ty : TypeId) (c : Nat) :
    (Builtin.clear_ #[65] ty #[.slice (some ⟨g, (n - 1) * 5, none⟩) 1 c]).run Tryz.prog x6 = .ok (.tuple #[]) (x6.setCells g ((n - 1) * 5) (Builtin.zeroCells (.agg #[.string ⟨#[]⟩, .int .i64 0, .int .i64 0, .string ⟨#[]⟩, .int .i64 0] : Value).cells 1).toList) := by
  have hrc := row_cells (h.row 0 rfl)
  have hml : xs.length = n * 5 := (h.row 0 rfl).1
  exact run_clear_K x6 65 78 ty _ Tryz.underlying65 zeroEn (fun n => zeroCells_one (fun i hi => by
    have hi5 : i < 5 := hi
    obtain rfl | rfl | rfl | rfl | rfl : i = 0 ∨ i = 1 ∨ i = 2 ∨ i = 3 ∨ i = 4 := by omega
    all_goals rfl)) g ((n - 1) * 5) 1 c (by omega)
    (fun q hq => by
      have hq5 : q < 1 * 5 := hq
      rw [hrc.1 ((n - 1) * 5 + q) _ (List.getElem?_eq_getElem (by rw [hml]; omega))]; rfl) (fun q _ => hrc.2 _)
set_option maxHeartbeats 8000000 in
theorem delete1 {w : World} {F : Nat → Prop} {g n cap i : Nat} (l : List En) (h : Own w F w [rowE (.slice (some ⟨g, 0, none⟩) n cap) l]) (hn : l.length = n) (hi : i < n) (hl : n ≤ 1000) :
    Calls Tryz.prog 63 #[.slice (some ⟨g, 0, none⟩) n cap, .int .i64 i, .int .i64 ((i : Int) + 1)] w (DelO F (l.eraseIdx i) w) := by
  have HO := Lib.hid h
  have HN := Lib.hid hn
  have hcap := row_cap (show w.ownsRow 0 78 5 (.slice (some ⟨g, 0, none⟩) n cap) n (l.flatMap cEn) by have := h.row 0 rfl; rwa [hn] at this)
  clear h hn
  have hne : ((i : Int) == (i : Int) + 1) = false := by simp; omega
  obtain ⟨d, rfl⟩ : ∃ d, n = i + 1 + d := ⟨n - (i + 1), by omega⟩
  by_cases hce : cap = i + 1
  · obtain rfl : d = 0 := by omega
    subst hce
    simp only [Nat.add_zero] at HO HN hcap hi hl ⊢
    go_enter Tryz.func63, Tryz.ntmps63
    go_wp2
    refine wp_region_R 6 (by kernel_rfl) (by kernel_rfl) ?_
    simp only [List.take, List.drop]
    iterate 6 (first | (refine wpR_want (by kernel_rfl) rfl rfl ?_; intro K hK; go_big_quiet_op; go_big_quiet_on) | (refine wpR_is (by kernel_rfl) rfl _ (fun w _ => rfl) ?_; simp only [Act.put, List.setIfInBounds_toArray, List.set_cons_succ, List.set_cons_zero]))
    refine wpR_nil (by kernel_rfl) (by simp) ?_
    rintro w5 hb5
    simp only [exAll, List.drop]
    have HO5 := Lib.hid (HO.out.stay hb5)
    clear hb5
    have H1 := Lib.hid (show Own w F w5 [rowR (.slice (some ⟨g, 0, none⟩) (i + 1) (i + 1)) 78 5 (i + 1) (l.flatMap cEn)] by have := HO5.out; simp only [rowE, HN.out] at this; exact this)
    have hap := fun ty => dele_app H1.out HN.out hi hcap ty 0 0 (.inr rfl)
    have H6 := Lib.hid (Own.rowSets 0 ((l.drop (i + 1)).flatMap cEn) (i * 5) H1.out rfl)
    obtain ⟨x6, hx6⟩ : ∃ x, w5.setCells g (i * 5) ((l.drop (i + 1)).flatMap cEn) = x := ⟨_, rfl⟩
    rw [hx6] at hap H6
    have hcl := dele_clr H6.out (by omega)
    have HE := Lib.hid (dele_end HO5.out HN.out hi (Builtin.zeroCells (.agg #[.string ⟨#[]⟩, .int .i64 0, .int .i64 0, .string ⟨#[]⟩, .int .i64 0] : Value).cells 1).toList)
    rw [hx6] at HE
    rw [show i + 1 - 1 = i by omega] at hcl HE
    simp only [show i + 1 - 1 = i by omega, show i + 1 - (i + 1) = 0 by omega] at hap
    clear hx6
    refine wpList_plain rfl fun K hK => wp_append_run (s := .tmp 22) (x := .tmp 25) (t := 65) rfl rfl rfl (hap _) (hK _ _ ?_)
    clear hap
    go_wp2
    go_ret
    exact ⟨_, rfl, HE.out, HE.out.size⟩
  · go_enter Tryz.func63, Tryz.ntmps63
    go_wp2
    refine wp_region_R 6 (by kernel_rfl) (by kernel_rfl) ?_
    simp only [List.take, List.drop]
    iterate 6 (first | (refine wpR_want (by kernel_rfl) rfl rfl ?_; intro K hK; go_big_quiet_op; go_big_quiet_on) | (refine wpR_is (by kernel_rfl) rfl _ (fun w _ => rfl) ?_; simp only [Act.put, List.setIfInBounds_toArray, List.set_cons_succ, List.set_cons_zero]))
    refine wpR_nil (by kernel_rfl) (by simp) ?_
    rintro w5 hb5
    simp only [exAll, List.drop]
    have HO5 := Lib.hid (HO.out.stay hb5)
    clear hb5
    have H1 := Lib.hid (show Own w F w5 [rowR (.slice (some ⟨g, 0, none⟩) (i + 1 + d) cap) 78 5 (i + 1 + d) (l.flatMap cEn)] by have := HO5.out; simp only [rowE, HN.out] at this; exact this)
    have hap := fun ty c => dele_app H1.out HN.out hi hcap ty ((i + 1) * 5) c (.inl rfl)
    have H6 := Lib.hid (Own.rowSets 0 ((l.drop (i + 1)).flatMap cEn) (i * 5) H1.out rfl)
    obtain ⟨x6, hx6⟩ : ∃ x, w5.setCells g (i * 5) ((l.drop (i + 1)).flatMap cEn) = x := ⟨_, rfl⟩
    rw [hx6] at hap H6
    have hcl := dele_clr H6.out (by omega)
    have HE := Lib.hid (dele_end HO5.out HN.out hi (Builtin.zeroCells (.agg #[.string ⟨#[]⟩, .int .i64 0, .int .i64 0, .string ⟨#[]⟩, .int .i64 0] : Value).cells 1).toList)
    rw [hx6] at HE
    rw [show i + 1 + d - 1 = i + d by omega] at hcl HE
    simp only [show i + 1 + d - 1 = i + d by omega, show i + 1 + d - (i + 1) = d by omega] at hap
    clear hx6
    refine wpList_plain rfl fun K hK => wp_append_run (s := .tmp 22) (x := .tmp 25) (t := 65) rfl rfl rfl (hap _ _) (hK _ _ ?_)
    clear hap
    have hc2 : ∀ ty c, (Builtin.clear_ #[65] ty #[.slice (some ⟨g, (i + d) * 5, none⟩) (i + 1 + d - (i + d)) c]).run Tryz.prog x6 = .ok (.tuple #[]) (x6.setCells g ((i + d) * 5) (Builtin.zeroCells (.agg #[.string ⟨#[]⟩, .int .i64 0, .int .i64 0, .string ⟨#[]⟩, .int .i64 0] : Value).cells 1).toList) := by rw [show i + 1 + d - (i + d) = 1 by omega]; exact hcl
    clear hcl
    go_wp2
    go_ret
    exact ⟨_, rfl, HE.out, HE.out.size⟩

end Go.Proofs.YtapeljiopbkjlaaGreatDoor
