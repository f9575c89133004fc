/- DNSCacheStoresAnswers, the plain law. Printed by wip/tools/gen20N.py. DNSCacheStoresAnswers, walked. Printed by wip/tools/gen20O.py. -/
import Derived.Test.YtapeljiopbkjlaaGreatDoorCtt
import Derived.Test.YtapeljiopbkjlaaGreatDoorDv
namespace Go.Proofs.YtapeljiopbkjlaaGreatDoor
open Go.RowKit Go.Sort
set_option linter.unusedVariables false
set_option maxRecDepth 100000

/-- The record that the law makes of a raw one. -/
def dR (x : Rw) : Rc := ⟨(recF x).nm, (recF x).kd, 1 + pk (recF x).tt 30, (recF x).ad, (recF x).to⟩
def dS (g : Nat → Rw) (k : Nat) : List Rc := (List.range k).map fun i => dR (g i)
theorem dS_len (g : Nat → Rw) (k : Nat) : (dS g k).length = k := by simp [dS]
theorem dS_succ (g : Nat → Rw) (k : Nat) : dS g (k + 1) = dS g k ++ [dR (g k)] := by simp [dS, List.range_succ]
theorem dR_tt (x : Rw) : 1 ≤ (dR x).tt ∧ (dR x).tt ≤ 30 := by
  have := pk_bd (recF x).tt 30 (by decide)
  unfold dR
  dsimp only
  omega
theorem dR_nm (x : Rw) : vname (dR x).nm = true := by
  show vname (recF x).nm = true
  rw [(recF_A x).2.1]; exact nmF_ok _
theorem dR_A (x : Rw) : recA (dR x) = true := (recF_A x).1
theorem dR_ok (x : Rw) : RcV (dR x) := by
  refine ⟨dR_nm x, by have := dR_tt x; omega, by have := dR_tt x; omega, ?_⟩
  have h := dR_A x
  simp only [recA, Bool.or_eq_true, Bool.and_eq_true, decide_eq_true_eq] at h
  rcases h with ⟨⟨h1, h2⟩, h3⟩ | ⟨⟨h1, h2⟩, h3⟩
  · exact .inl ⟨h1, h2, h3⟩
  · exact .inr ⟨h1, h2, h3⟩
theorem dR_B (x : Rw) : recB 100 (dR x) = true := recB_ok (by decide) (by decide) (dR_nm x) (by have := dR_tt x; omega) (by have := dR_tt x; omega) (dR_A x)
theorem dS_B (g : Nat → Rw) (k : Nat) : ∀ r ∈ dS g k, recB 100 r = true ∧ 1 ≤ r.tt ∧ RcV r := by
  intro r hr
  obtain ⟨i, _, rfl⟩ := List.mem_map.1 hr
  exact ⟨dR_B _, (dR_tt _).1, dR_ok _⟩
theorem dS_msg (g : Nat → Rw) (k : Nat) (hk : k ≤ 8) : DmV ⟨7, true, 0, ⟨#[97, 46, 98]⟩, 1, dS g k⟩ := by
  refine ⟨⟨by show (0:Int) ≤ 7; decide, by show (7:Int) ≤ 65535; decide⟩, ⟨by show (0:Int) ≤ 0; decide, by show (0:Int) ≤ 2; decide⟩, nmAt_ok 1, .inl rfl, by rw [dS_len]; exact hk, fun r hr => (dS_B g k r hr).2.2, fun h => by cases h⟩
/-- What the cache holds when the records have been stored. -/
def ptS (rs : List Rc) : List En := rs.foldl (fun l r => putF 100 r l) []
theorem ptS_snoc (rs : List Rc) (r : Rc) : ptS (rs ++ [r]) = putF 100 r (ptS rs) := by simp [ptS, List.foldl_append]
theorem ptS_take (rs : List Rc) (k : Nat) (h : k < rs.length) : ptS (rs.take (k + 1)) = putF 100 rs[k] (ptS (rs.take k)) := by rw [List.take_succ_eq_append_getElem h, ptS_snoc]
theorem putF_len1 (t : Int) (r : Rc) (l : List En) : (putF t r l).length ≤ l.length + 1 := by
  unfold putF
  split
  · refine Nat.le_trans (store_len1 _ _) ?_
    have := List.length_filter_le (fun x => !putP r x) l
    omega
  · omega
theorem snoc_ind {P : List Rc → Prop} (h0 : P []) (h1 : ∀ rs r, P rs → P (rs ++ [r])) : ∀ rs, P rs := fun rs => by
  have h : ∀ n (rs : List Rc), rs.length = n → P rs := by
    intro n
    induction n with
    | zero => intro rs h; rw [List.eq_nil_of_length_eq_zero h]; exact h0
    | succ n ih =>
      intro rs h
      have hne : rs ≠ [] := by intro e; rw [e] at h; cases h
      rw [← List.dropLast_concat_getLast hne]
      exact h1 _ _ (ih _ (by rw [List.length_dropLast, h]; rfl))
  exact h _ rs rfl
theorem ptS_inv : ∀ rs, CInv 100 (ptS rs) ∧ (ptS rs).length ≤ rs.length := snoc_ind ⟨CInv.nil _, Nat.le_refl _⟩ fun rs r h => by
  rw [ptS_snoc]
  exact ⟨h.1.put r, by have := putF_len1 100 r (ptS rs); have := h.2; rw [List.length_append]; simp; omega⟩
theorem ptS_has : ∀ rs : List Rc, rs.length ≤ 31 → (∀ r ∈ rs, recB 100 r = true ∧ 1 ≤ r.tt ∧ RcV r) → ∀ r ∈ rs, ∃ e ∈ ptS rs, keyE e = ownK r ∧ 100 < e.ex :=
  snoc_ind (fun _ _ r hr => absurd hr (List.not_mem_nil)) fun rs r' ih hlen hall => by
    rw [List.length_append] at hlen
    have hlen : rs.length ≤ 30 := by simp at hlen; omega
    obtain ⟨hb, ht, _⟩ := hall r' (by simp)
    have hk : r'.kd ≠ 0 := by rw [recB_eq, Bool.and_eq_true] at hb; have := recA_kd hb.1; omega
    rw [ptS_snoc, putF_eq _ hb (by omega), room_small (by have := (ptS_inv rs).2; have := List.length_filter_le (fun x => !putP r' x) (ptS rs); omega)]
    intro r hr
    rcases List.mem_append.1 hr with hr | hr
    · obtain ⟨e, he, h1, h2⟩ := ih (by omega) (fun x hx => hall x (List.mem_append_left _ hx)) r hr
      cases hp : putP r' e with
      | false => exact ⟨e, List.mem_append_left _ (List.mem_filter.2 ⟨he, by simp [hp]⟩), h1, h2⟩
      | true =>
        refine ⟨_, List.mem_append_right _ (List.mem_singleton.2 rfl), ?_, by show 100 < 100 + r'.tt; omega⟩
        simp only [putP, Bool.or_eq_true] at hp
        rcases hp with hp | hp
        · rw [← h1, (kyEq_iff _ _).1 hp]; rfl
        · have h3 := (kyEq_iff _ _).1 hp
          rw [h1] at h3
          have h4 : r.kd = 0 := congrArg Ky.kd h3
          obtain ⟨hb, _, _⟩ := hall r (List.mem_append_left _ hr)
          rw [recB_eq, Bool.and_eq_true] at hb
          have := recA_kd hb.1
          omega
    · obtain rfl := List.mem_singleton.1 hr
      exact ⟨_, List.mem_append_right _ (List.mem_singleton.2 rfl), rfl, by show 100 < 100 + r.tt; omega⟩
theorem stores_law {l : List En} {r : Rc} (hl : CInv 100 l) (hk : r.kd ≠ 0) (h : ∃ e ∈ l, keyE e = ownK r ∧ 100 < e.ex) :
    (lookD 100 r.nm l).countP (mtB r) = 1 ∧ knwD 100 r.nm l = true := by
  obtain ⟨e, he, hke, hex⟩ := h
  have hnm : e.nm = r.nm := congrArg Ky.nm hke
  have hkd : e.kd = r.kd := congrArg Ky.kd hke
  have had : e.ad = r.ad := congrArg Ky.ad hke
  have hto : e.to = r.to := congrArg Ky.to hke
  have hh : hitB 100 r.nm e = true := by simp [hitB, liveB, hnm, hex]
  refine ⟨?_, by unfold knwD; exact List.any_eq_true.2 ⟨e, he, hh⟩⟩
  unfold lookD
  rw [(srtR_perm _).countP_eq]
  obtain ⟨a, b, rfl⟩ := List.append_of_mem he
  have hap := hl.ap
  rw [List.pairwise_append, List.pairwise_cons] at hap
  obtain ⟨_, ⟨h2, _⟩, h3⟩ := hap
  have none : ∀ m : List En, (∀ x ∈ m, keyE x ≠ keyE e) → (recs 100 r.nm m).countP (mtB r) = 0 := fun m hm => by
    rw [List.countP_eq_zero]
    intro y hy hmt
    obtain ⟨x, hx, rfl⟩ := List.mem_map.1 hy
    obtain ⟨hx1, hx2⟩ := List.mem_filter.1 hx
    rw [Bool.and_eq_true] at hx2
    exact hm x hx1 ((mtB_key hmt (hit_nm hx2.1).1).trans hke.symm)
  have n1 := none a fun x hx => (h3 x hx e (List.mem_cons_self ..)).1
  have n2 := none b fun x hx => (h2 x hx).1.symm
  unfold recs at n1 n2 ⊢
  rw [List.filter_append, List.map_append, List.countP_append, n1, List.filter_cons_of_pos (by rw [hh, hkd]; simp [hk]), List.map_cons, List.countP_cons, n2]
  simp [mtB, rcOf, hkd, had, hto]
theorem stores_all (g : Nat → Rw) (n : Nat) (hn : n ≤ 8) (i : Nat) (hi : i < (dS g n).length) :
    (lookD 100 (dS g n)[i].nm (ptS (dS g n))).countP (mtB (dS g n)[i]) = 1 ∧ knwD 100 (dS g n)[i].nm (ptS (dS g n)) = true := by
  have hm := List.getElem_mem hi
  have hb := (dS_B g n _ hm).1
  refine stores_law (ptS_inv _).1 ?_ (ptS_has _ (by rw [dS_len]; omega) (dS_B g n) _ hm)
  rw [recB_eq, Bool.and_eq_true] at hb
  have := recA_kd hb.1
  omega

end Go.Proofs.YtapeljiopbkjlaaGreatDoor

namespace Go.Proofs.YtapeljiopbkjlaaGreatDoor
open Go.RowKit Go.Sort
set_option linter.unusedVariables false
set_option maxRecDepth 100000

theorem clen_q {w0 w : World} {D : Nat → Prop} {L : List Res} {c n : Nat} {l : List En} (h : Own w0 D w L) (i : Nat) (hi : L[i]? = some (resC c l)) (hn : l.length = n) : Calls Tryz.prog 12 #[.pointer (some ⟨c, 0, none⟩)] w fun e w' => e = .returned (.int .i64 n) ∧ Below w.heap.size w w' := by
  obtain ⟨F, hF, _, _⟩ := h.step hi
  obtain ⟨v, hO⟩ := openC' (Own.one hF)
  obtain ⟨a, cap, hv⟩ := row_shape (hO.row 1 rfl)
  rw [hn] at hv
  subst hv
  have c1 : w.cell? ⟨c, 0, none⟩ = some (.slice a n cap) := hO.cell 0 rfl 0 rfl
  clear hO hn hF h hi
  go_enter Tryz.func12, Tryz.ntmps12
  go_wp2
  go_ret
  exact ⟨rfl, Below.refl _ _⟩
/-- A slice of raw records. -/
def RdRw (w : World) (v : Value) (len : Nat) (g : Nat → Rw) : Prop :=
  ∃ a cap, v = .slice a len cap ∧ len ≤ cap ∧ len ≤ 9223372036854775807 ∧ (∀ i, i < len → RwOk (g i)) ∧ (len ≠ 0 → ∃ b o, a = some ⟨b, o, none⟩ ∧ ∀ i, i < len → ∀ j, j < 4 → w.cell? ⟨b, o + i * 4 + j, none⟩ = (rwA (g i))[j]?)
theorem run_bdD (w : World) : (Instr.build 26 #[(0, .int .i64 7), (1, .bool true), (3, .string ⟨#[97, 46, 98]⟩), (4, .int .i64 1)]).run Tryz.prog w = .ok (.agg #[.int .i64 7, .bool true, .int .i64 0, .string ⟨#[97, 46, 98]⟩, .int .i64 1, .slice none 0 0]) w := by kernel_rfl
theorem dS_row (g : Nat → Rw) (k : Nat) : (dS g (k + 1)).flatMap cRc = (dS g k).flatMap cRc ++ cRc (dR (g k)) := by rw [dS_succ, List.flatMap_append]; simp
section
attribute [local go_sem ↓] run_bdD run_bsRc
set_option maxRecDepth 100000 in
set_option maxHeartbeats 16000000 in
theorem stores_le (len : Nat) (g : Nat → Rw) (v : Value) (a : Addr) (w : World) (hr : RdRw w v len g) (hg : w.cell? ⟨errG, 0, none⟩ = some (errV a)) (hN : len ≤ 8) :
    Calls Tryz.prog 3 #[v] w fun e w' => e = .returned (.bool true) ∧ Below w.heap.size w w' := by
  have HG := Lib.hid hg
  obtain ⟨p, cap, rfl, hcap, hlen, hok, hcell⟩ := hr
  have HOK := Lib.hid hok
  have HC := Lib.hid hcell
  clear hok hcell hg
  have HO := Lib.hid (Own.nil w none0)
  go_enter Tryz.func3, Tryz.ntmps3
  have hsane := sane_o (w0 := w) (w := w) (a := a) (Own.nil _ _) (keep HO.out.below HG.out)
  go_wp2_with fail
  refine hsane.mono ?_
  rintro e x1 ⟨rfl, hO1, -⟩
  have hO := HO.out.stay hO1.below
  replace HO := Lib.hid (show Own w none0 x1 [] from hO)
  clear hO hO1 hsane
  obtain ⟨x2, hx2⟩ : ∃ y, x1.alloc (.cells #[.int .i64 0, .bool false, .int .i64 0, .string ⟨#[]⟩, .int .i64 0, .slice none 0 0] 26) = y := ⟨_, rfl⟩
  obtain ⟨bd, hbd⟩ : ∃ y, x1.heap.size = y := ⟨_, rfl⟩
  have hO := HO.out.alloc (.cells #[.int .i64 0, .bool false, .int .i64 0, .string ⟨#[]⟩, .int .i64 0, .slice none 0 0] 26)
  rw [hx2, hbd] at hO
  replace HO := Lib.hid (show Own w none0 x2 [blkR bd (.cells #[.int .i64 0, .bool false, .int .i64 0, .string ⟨#[]⟩, .int .i64 0, .slice none 0 0] 26)] from hO)
  clear hO
  have k0_0_3 : x2.cell? ⟨bd, 0, none⟩ = some (.int .i64 0) := HO.out.cell 0 rfl 0 rfl
  have lk0_0_3 : x2.frozen? ⟨bd, 0, none⟩ = false := HO.out.frz 0 rfl 0
  have k0_1_4 : x2.cell? ⟨bd, 1, none⟩ = some (.bool false) := HO.out.cell 0 rfl 1 rfl
  have lk0_1_4 : x2.frozen? ⟨bd, 1, none⟩ = false := HO.out.frz 0 rfl 1
  have k0_2_5 : x2.cell? ⟨bd, 2, none⟩ = some (.int .i64 0) := HO.out.cell 0 rfl 2 rfl
  have lk0_2_5 : x2.frozen? ⟨bd, 2, none⟩ = false := HO.out.frz 0 rfl 2
  have k0_3_6 : x2.cell? ⟨bd, 3, none⟩ = some (.string ⟨#[]⟩) := HO.out.cell 0 rfl 3 rfl
  have lk0_3_6 : x2.frozen? ⟨bd, 3, none⟩ = false := HO.out.frz 0 rfl 3
  have k0_4_7 : x2.cell? ⟨bd, 4, none⟩ = some (.int .i64 0) := HO.out.cell 0 rfl 4 rfl
  have lk0_4_7 : x2.frozen? ⟨bd, 4, none⟩ = false := HO.out.frz 0 rfl 4
  have k0_5_8 : x2.cell? ⟨bd, 5, none⟩ = some (.slice none 0 0) := HO.out.cell 0 rfl 5 rfl
  have lk0_5_8 : x2.frozen? ⟨bd, 5, none⟩ = false := HO.out.frz 0 rfl 5
  obtain ⟨x9, hx9⟩ : ∃ y, x2.setCell ⟨bd, 0, none⟩ (.int .i64 7) = y := ⟨_, rfl⟩
  have hO := HO.out.setCell 0 rfl 0 (.int .i64 7)
  rw [hx9] at hO
  replace HO := Lib.hid (show Own w none0 x9 [blkR bd (.cells #[.int .i64 7, .bool false, .int .i64 0, .string ⟨#[]⟩, .int .i64 0, .slice none 0 0] 26)] from hO)
  clear hO
  have k0_1_10 : x9.cell? ⟨bd, 1, none⟩ = some (.bool false) := HO.out.cell 0 rfl 1 rfl
  have lk0_1_10 : x9.frozen? ⟨bd, 1, none⟩ = false := HO.out.frz 0 rfl 1
  have k0_2_11 : x9.cell? ⟨bd, 2, none⟩ = some (.int .i64 0) := HO.out.cell 0 rfl 2 rfl
  have lk0_2_11 : x9.frozen? ⟨bd, 2, none⟩ = false := HO.out.frz 0 rfl 2
  have k0_3_12 : x9.cell? ⟨bd, 3, none⟩ = some (.string ⟨#[]⟩) := HO.out.cell 0 rfl 3 rfl
  have lk0_3_12 : x9.frozen? ⟨bd, 3, none⟩ = false := HO.out.frz 0 rfl 3
  have k0_4_13 : x9.cell? ⟨bd, 4, none⟩ = some (.int .i64 0) := HO.out.cell 0 rfl 4 rfl
  have lk0_4_13 : x9.frozen? ⟨bd, 4, none⟩ = false := HO.out.frz 0 rfl 4
  have k0_5_14 : x9.cell? ⟨bd, 5, none⟩ = some (.slice none 0 0) := HO.out.cell 0 rfl 5 rfl
  have lk0_5_14 : x9.frozen? ⟨bd, 5, none⟩ = false := HO.out.frz 0 rfl 5
  obtain ⟨x15, hx15⟩ : ∃ y, x9.setCell ⟨bd, 1, none⟩ (.bool true) = y := ⟨_, rfl⟩
  have hO := HO.out.setCell 0 rfl 1 (.bool true)
  rw [hx15] at hO
  replace HO := Lib.hid (show Own w none0 x15 [blkR bd (.cells #[.int .i64 7, .bool true, .int .i64 0, .string ⟨#[]⟩, .int .i64 0, .slice none 0 0] 26)] from hO)
  clear hO
  have k0_2_16 : x15.cell? ⟨bd, 2, none⟩ = some (.int .i64 0) := HO.out.cell 0 rfl 2 rfl
  have lk0_2_16 : x15.frozen? ⟨bd, 2, none⟩ = false := HO.out.frz 0 rfl 2
  have k0_3_17 : x15.cell? ⟨bd, 3, none⟩ = some (.string ⟨#[]⟩) := HO.out.cell 0 rfl 3 rfl
  have lk0_3_17 : x15.frozen? ⟨bd, 3, none⟩ = false := HO.out.frz 0 rfl 3
  have k0_4_18 : x15.cell? ⟨bd, 4, none⟩ = some (.int .i64 0) := HO.out.cell 0 rfl 4 rfl
  have lk0_4_18 : x15.frozen? ⟨bd, 4, none⟩ = false := HO.out.frz 0 rfl 4
  have k0_5_19 : x15.cell? ⟨bd, 5, none⟩ = some (.slice none 0 0) := HO.out.cell 0 rfl 5 rfl
  have lk0_5_19 : x15.frozen? ⟨bd, 5, none⟩ = false := HO.out.frz 0 rfl 5
  obtain ⟨x20, hx20⟩ : ∃ y, x15.setCell ⟨bd, 2, none⟩ (.int .i64 0) = y := ⟨_, rfl⟩
  have hO := HO.out.setCell 0 rfl 2 (.int .i64 0)
  rw [hx20] at hO
  replace HO := Lib.hid (show Own w none0 x20 [blkR bd (.cells #[.int .i64 7, .bool true, .int .i64 0, .string ⟨#[]⟩, .int .i64 0, .slice none 0 0] 26)] from hO)
  clear hO
  have k0_3_21 : x20.cell? ⟨bd, 3, none⟩ = some (.string ⟨#[]⟩) := HO.out.cell 0 rfl 3 rfl
  have lk0_3_21 : x20.frozen? ⟨bd, 3, none⟩ = false := HO.out.frz 0 rfl 3
  have k0_4_22 : x20.cell? ⟨bd, 4, none⟩ = some (.int .i64 0) := HO.out.cell 0 rfl 4 rfl
  have lk0_4_22 : x20.frozen? ⟨bd, 4, none⟩ = false := HO.out.frz 0 rfl 4
  have k0_5_23 : x20.cell? ⟨bd, 5, none⟩ = some (.slice none 0 0) := HO.out.cell 0 rfl 5 rfl
  have lk0_5_23 : x20.frozen? ⟨bd, 5, none⟩ = false := HO.out.frz 0 rfl 5
  obtain ⟨x24, hx24⟩ : ∃ y, x20.setCell ⟨bd, 3, none⟩ (.string ⟨#[97, 46, 98]⟩) = y := ⟨_, rfl⟩
  have hO := HO.out.setCell 0 rfl 3 (.string ⟨#[97, 46, 98]⟩)
  rw [hx24] at hO
  replace HO := Lib.hid (show Own w none0 x24 [blkR bd (.cells #[.int .i64 7, .bool true, .int .i64 0, .string ⟨#[97, 46, 98]⟩, .int .i64 0, .slice none 0 0] 26)] from hO)
  clear hO
  have k0_4_25 : x24.cell? ⟨bd, 4, none⟩ = some (.int .i64 0) := HO.out.cell 0 rfl 4 rfl
  have lk0_4_25 : x24.frozen? ⟨bd, 4, none⟩ = false := HO.out.frz 0 rfl 4
  have k0_5_26 : x24.cell? ⟨bd, 5, none⟩ = some (.slice none 0 0) := HO.out.cell 0 rfl 5 rfl
  have lk0_5_26 : x24.frozen? ⟨bd, 5, none⟩ = false := HO.out.frz 0 rfl 5
  obtain ⟨x27, hx27⟩ : ∃ y, x24.setCell ⟨bd, 4, none⟩ (.int .i64 1) = y := ⟨_, rfl⟩
  have hO := HO.out.setCell 0 rfl 4 (.int .i64 1)
  rw [hx27] at hO
  replace HO := Lib.hid (show Own w none0 x27 [blkR bd (.cells #[.int .i64 7, .bool true, .int .i64 0, .string ⟨#[97, 46, 98]⟩, .int .i64 1, .slice none 0 0] 26)] from hO)
  clear hO
  have k0_5_28 : x27.cell? ⟨bd, 5, none⟩ = some (.slice none 0 0) := HO.out.cell 0 rfl 5 rfl
  have lk0_5_28 : x27.frozen? ⟨bd, 5, none⟩ = false := HO.out.frz 0 rfl 5
  obtain ⟨x29, hx29⟩ : ∃ y, x27.setCell ⟨bd, 5, none⟩ (.slice none 0 0) = y := ⟨_, rfl⟩
  have hO := HO.out.setCell 0 rfl 5 (.slice none 0 0)
  rw [hx29] at hO
  replace HO := Lib.hid (show Own w none0 x29 [blkR bd (.cells #[.int .i64 7, .bool true, .int .i64 0, .string ⟨#[97, 46, 98]⟩, .int .i64 1, .slice none 0 0] 26)] from hO)
  clear hO
  have z0_0 : x29.cell? ⟨bd, 0, none⟩ = some (.int .i64 7) := HO.out.cell 0 rfl 0 rfl
  have z0_1 : x29.cell? ⟨bd, 1, none⟩ = some (.bool true) := HO.out.cell 0 rfl 1 rfl
  have z0_2 : x29.cell? ⟨bd, 2, none⟩ = some (.int .i64 0) := HO.out.cell 0 rfl 2 rfl
  have z0_3 : x29.cell? ⟨bd, 3, none⟩ = some (.string ⟨#[97, 46, 98]⟩) := HO.out.cell 0 rfl 3 rfl
  have z0_4 : x29.cell? ⟨bd, 4, none⟩ = some (.int .i64 1) := HO.out.cell 0 rfl 4 rfl
  have z0_5 : x29.cell? ⟨bd, 5, none⟩ = some (.slice none 0 0) := HO.out.cell 0 rfl 5 rfl
  go_wp2
  clear hx2 hbd k0_0_3 lk0_0_3 k0_1_4 lk0_1_4 k0_2_5 lk0_2_5 k0_3_6 lk0_3_6 k0_4_7 lk0_4_7 k0_5_8 lk0_5_8 hx9 k0_1_10 lk0_1_10 k0_2_11 lk0_2_11 k0_3_12 lk0_3_12 k0_4_13 lk0_4_13 k0_5_14 lk0_5_14 hx15 k0_2_16 lk0_2_16 k0_3_17 lk0_3_17 k0_4_18 lk0_4_18 k0_5_19 lk0_5_19 hx20 k0_3_21 lk0_3_21 k0_4_22 lk0_4_22 k0_5_23 lk0_5_23 hx24 k0_4_25 lk0_4_25 k0_5_26 lk0_5_26 hx27 k0_5_28 lk0_5_28 hx29 z0_0 z0_1 z0_2 z0_3 z0_4 z0_5
  have HO := Lib.hid (show Own w none0 x29 ([blkR bd (.cells #[.int .i64 7, .bool true, .int .i64 0, .string ⟨#[97, 46, 98]⟩, .int .i64 1, .slice none 0 0] 26)] ++ [rowR (.slice none 0 0) 28 5 0 ((dS g 0).flatMap cRc)]) from HO.out.rowNew 28 5)
  go_loopw [5] (fun iv wr => ∃ (k : Nat) (a : Option Addr) (cap : Nat), k ≤ len ∧ iv = .int .i64 k ∧ Own w none0 wr [blkR bd (.cells #[.int .i64 7, .bool true, .int .i64 0, .string ⟨#[97, 46, 98]⟩, .int .i64 1, .slice a k cap] 26), rowR (.slice a k cap) 28 5 k ((dS g k).flatMap cRc)]) (fun iv _ => len - (intOf iv).toNat)
  case atStart => exact ⟨0, none, 0, Nat.zero_le _, rfl, HO.out⟩
  case round =>
    obtain ⟨k, a1, cap1, hk, rfl, hO⟩ := hrel
    replace HO := Lib.hid hO
    clear hO
    by_cases hlt : k < len
    · have hd1 : decide ((k : Int) < (len : Int)) = true := decide_eq_true (by omega)
      have hd2 : decide ((k : Int) < 8) = true := decide_eq_true (by omega)
      obtain ⟨b, o, rfl, hcc⟩ := HC.out (by omega)
      have hok := HOK.out k (by omega)
      have hcc := hcc k (by omega)
      have HD := Lib.hid (show ∀ (W : World), Below w.heap.size w W → ∀ j u, j < 4 → (rwA (g k))[j]? = some u → W.cell? ⟨b, o + k * 4 + j, none⟩ = some u from fun W hb j u hj hu => keep hb ((hcc j hj).trans hu))
      have HRX := Lib.hid (fun w => rec_any (g k) hok w)
      have q4 := pk_bd (g k).tt 30 (by decide)
      rw [← (recF_A (g k)).2.2] at q4
      have HDR := Lib.hid (show dR (g k) = ⟨(recF (g k)).nm, (recF (g k)).kd, 1 + pk (recF (g k)).tt 30, (recF (g k)).ad, (recF (g k)).to⟩ from rfl)
      have HRW := Lib.hid (dS_row g k)
      clear hcc
      obtain ⟨dr, hdr⟩ : ∃ y, dR (g k) = y := ⟨_, rfl⟩
      rw [hdr] at HDR HRW
      clear hdr hok
      generalize recF (g k) = r at *
      generalize g k = x at *
      obtain ⟨xn, xk, xt, xa⟩ := x
      obtain ⟨c0, c1, c2, c3, c4⟩ := r
      simp only at q4
      obtain ⟨q5, q6⟩ := q4
      have HPK := Lib.hid (fun w => pick_b c2 30 w (by omega) (by decide))
      have q3 := pk_bd c2 30 (by decide)
      have HDR := Lib.hid (show dr = ⟨c0, c1, 1 + pk c2 30, c3, c4⟩ from HDR.out)
      generalize pk c2 30 = q at *
      obtain ⟨q1, q2⟩ := q3
      have y0 : wr.cell? ⟨b, o + k * 4, none⟩ = some (.int .i64 xn) := HD.out wr HO.out.below 0 _ (by decide) rfl
      have y1 : wr.cell? ⟨b, o + k * 4 + 1, none⟩ = some (.int .i64 xk) := HD.out wr HO.out.below 1 _ (by decide) rfl
      have y2 : wr.cell? ⟨b, o + k * 4 + 2, none⟩ = some (.int .i64 xt) := HD.out wr HO.out.below 2 _ (by decide) rfl
      have y3 : wr.cell? ⟨b, o + k * 4 + 3, none⟩ = some (.int .i64 xa) := HD.out wr HO.out.below 3 _ (by decide) rfl
      clear HD
      go_wp2_with fail
      refine (o_still HO.out (HRX.out _)).mono ?_
      rintro e x41 ⟨rfl, hO, -⟩
      replace HO := Lib.hid (show Own w none0 x41 [blkR bd (.cells #[.int .i64 7, .bool true, .int .i64 0, .string ⟨#[97, 46, 98]⟩, .int .i64 1, .slice a1 k cap1] 26), rowR (.slice a1 k cap1) 28 5 k ((dS g k).flatMap cRc)] from hO)
      clear hO
      clear y0 y1 y2 y3
      obtain ⟨x42, hx42⟩ : ∃ y, x41.alloc (.cells #[.string ⟨#[]⟩, .int .i64 0, .int .i64 0, .int .i64 0, .string ⟨#[]⟩] 28) = y := ⟨_, rfl⟩
      obtain ⟨br, hbr⟩ : ∃ y, x41.heap.size = y := ⟨_, rfl⟩
      have hO := HO.out.alloc (.cells #[.string ⟨#[]⟩, .int .i64 0, .int .i64 0, .int .i64 0, .string ⟨#[]⟩] 28)
      rw [hx42, hbr] at hO
      replace HO := Lib.hid (show Own w none0 x42 [blkR bd (.cells #[.int .i64 7, .bool true, .int .i64 0, .string ⟨#[97, 46, 98]⟩, .int .i64 1, .slice a1 k cap1] 26), rowR (.slice a1 k cap1) 28 5 k ((dS g k).flatMap cRc), blkR br (.cells #[.string ⟨#[]⟩, .int .i64 0, .int .i64 0, .int .i64 0, .string ⟨#[]⟩] 28)] from hO)
      clear hO
      have k2_0_43 : x42.cell? ⟨br, 0, none⟩ = some (.string ⟨#[]⟩) := HO.out.cell 2 rfl 0 rfl
      have lk2_0_43 : x42.frozen? ⟨br, 0, none⟩ = false := HO.out.frz 2 rfl 0
      have k2_1_44 : x42.cell? ⟨br, 1, none⟩ = some (.int .i64 0) := HO.out.cell 2 rfl 1 rfl
      have lk2_1_44 : x42.frozen? ⟨br, 1, none⟩ = false := HO.out.frz 2 rfl 1
      have k2_2_45 : x42.cell? ⟨br, 2, none⟩ = some (.int .i64 0) := HO.out.cell 2 rfl 2 rfl
      have lk2_2_45 : x42.frozen? ⟨br, 2, none⟩ = false := HO.out.frz 2 rfl 2
      have k2_3_46 : x42.cell? ⟨br, 3, none⟩ = some (.int .i64 0) := HO.out.cell 2 rfl 3 rfl
      have lk2_3_46 : x42.frozen? ⟨br, 3, none⟩ = false := HO.out.frz 2 rfl 3
      have k2_4_47 : x42.cell? ⟨br, 4, none⟩ = some (.string ⟨#[]⟩) := HO.out.cell 2 rfl 4 rfl
      have lk2_4_47 : x42.frozen? ⟨br, 4, none⟩ = false := HO.out.frz 2 rfl 4
      obtain ⟨x48, hx48⟩ : ∃ y, x42.setCell ⟨br, 0, none⟩ (.string c0) = y := ⟨_, rfl⟩
      have hO := HO.out.setCell 2 rfl 0 (.string c0)
      rw [hx48] at hO
      replace HO := Lib.hid (show Own w none0 x48 [blkR bd (.cells #[.int .i64 7, .bool true, .int .i64 0, .string ⟨#[97, 46, 98]⟩, .int .i64 1, .slice a1 k cap1] 26), rowR (.slice a1 k cap1) 28 5 k ((dS g k).flatMap cRc), blkR br (.cells #[.string c0, .int .i64 0, .int .i64 0, .int .i64 0, .string ⟨#[]⟩] 28)] from hO)
      clear hO
      have k2_1_49 : x48.cell? ⟨br, 1, none⟩ = some (.int .i64 0) := HO.out.cell 2 rfl 1 rfl
      have lk2_1_49 : x48.frozen? ⟨br, 1, none⟩ = false := HO.out.frz 2 rfl 1
      have k2_2_50 : x48.cell? ⟨br, 2, none⟩ = some (.int .i64 0) := HO.out.cell 2 rfl 2 rfl
      have lk2_2_50 : x48.frozen? ⟨br, 2, none⟩ = false := HO.out.frz 2 rfl 2
      have k2_3_51 : x48.cell? ⟨br, 3, none⟩ = some (.int .i64 0) := HO.out.cell 2 rfl 3 rfl
      have lk2_3_51 : x48.frozen? ⟨br, 3, none⟩ = false := HO.out.frz 2 rfl 3
      have k2_4_52 : x48.cell? ⟨br, 4, none⟩ = some (.string ⟨#[]⟩) := HO.out.cell 2 rfl 4 rfl
      have lk2_4_52 : x48.frozen? ⟨br, 4, none⟩ = false := HO.out.frz 2 rfl 4
      obtain ⟨x53, hx53⟩ : ∃ y, x48.setCell ⟨br, 1, none⟩ (.int .i64 c1) = y := ⟨_, rfl⟩
      have hO := HO.out.setCell 2 rfl 1 (.int .i64 c1)
      rw [hx53] at hO
      replace HO := Lib.hid (show Own w none0 x53 [blkR bd (.cells #[.int .i64 7, .bool true, .int .i64 0, .string ⟨#[97, 46, 98]⟩, .int .i64 1, .slice a1 k cap1] 26), rowR (.slice a1 k cap1) 28 5 k ((dS g k).flatMap cRc), blkR br (.cells #[.string c0, .int .i64 c1, .int .i64 0, .int .i64 0, .string ⟨#[]⟩] 28)] from hO)
      clear hO
      have k2_2_54 : x53.cell? ⟨br, 2, none⟩ = some (.int .i64 0) := HO.out.cell 2 rfl 2 rfl
      have lk2_2_54 : x53.frozen? ⟨br, 2, none⟩ = false := HO.out.frz 2 rfl 2
      have k2_3_55 : x53.cell? ⟨br, 3, none⟩ = some (.int .i64 0) := HO.out.cell 2 rfl 3 rfl
      have lk2_3_55 : x53.frozen? ⟨br, 3, none⟩ = false := HO.out.frz 2 rfl 3
      have k2_4_56 : x53.cell? ⟨br, 4, none⟩ = some (.string ⟨#[]⟩) := HO.out.cell 2 rfl 4 rfl
      have lk2_4_56 : x53.frozen? ⟨br, 4, none⟩ = false := HO.out.frz 2 rfl 4
      obtain ⟨x57, hx57⟩ : ∃ y, x53.setCell ⟨br, 2, none⟩ (.int .i64 c2) = y := ⟨_, rfl⟩
      have hO := HO.out.setCell 2 rfl 2 (.int .i64 c2)
      rw [hx57] at hO
      replace HO := Lib.hid (show Own w none0 x57 [blkR bd (.cells #[.int .i64 7, .bool true, .int .i64 0, .string ⟨#[97, 46, 98]⟩, .int .i64 1, .slice a1 k cap1] 26), rowR (.slice a1 k cap1) 28 5 k ((dS g k).flatMap cRc), blkR br (.cells #[.string c0, .int .i64 c1, .int .i64 c2, .int .i64 0, .string ⟨#[]⟩] 28)] from hO)
      clear hO
      have k2_3_58 : x57.cell? ⟨br, 3, none⟩ = some (.int .i64 0) := HO.out.cell 2 rfl 3 rfl
      have lk2_3_58 : x57.frozen? ⟨br, 3, none⟩ = false := HO.out.frz 2 rfl 3
      have k2_4_59 : x57.cell? ⟨br, 4, none⟩ = some (.string ⟨#[]⟩) := HO.out.cell 2 rfl 4 rfl
      have lk2_4_59 : x57.frozen? ⟨br, 4, none⟩ = false := HO.out.frz 2 rfl 4
      obtain ⟨x60, hx60⟩ : ∃ y, x57.setCell ⟨br, 3, none⟩ (.int .i64 c3) = y := ⟨_, rfl⟩
      have hO := HO.out.setCell 2 rfl 3 (.int .i64 c3)
      rw [hx60] at hO
      replace HO := Lib.hid (show Own w none0 x60 [blkR bd (.cells #[.int .i64 7, .bool true, .int .i64 0, .string ⟨#[97, 46, 98]⟩, .int .i64 1, .slice a1 k cap1] 26), rowR (.slice a1 k cap1) 28 5 k ((dS g k).flatMap cRc), blkR br (.cells #[.string c0, .int .i64 c1, .int .i64 c2, .int .i64 c3, .string ⟨#[]⟩] 28)] from hO)
      clear hO
      have k2_4_61 : x60.cell? ⟨br, 4, none⟩ = some (.string ⟨#[]⟩) := HO.out.cell 2 rfl 4 rfl
      have lk2_4_61 : x60.frozen? ⟨br, 4, none⟩ = false := HO.out.frz 2 rfl 4
      obtain ⟨x62, hx62⟩ : ∃ y, x60.setCell ⟨br, 4, none⟩ (.string c4) = y := ⟨_, rfl⟩
      have hO := HO.out.setCell 2 rfl 4 (.string c4)
      rw [hx62] at hO
      replace HO := Lib.hid (show Own w none0 x62 [blkR bd (.cells #[.int .i64 7, .bool true, .int .i64 0, .string ⟨#[97, 46, 98]⟩, .int .i64 1, .slice a1 k cap1] 26), rowR (.slice a1 k cap1) 28 5 k ((dS g k).flatMap cRc), blkR br (.cells #[.string c0, .int .i64 c1, .int .i64 c2, .int .i64 c3, .string c4] 28)] from hO)
      clear hO
      have z2_0 : x62.cell? ⟨br, 0, none⟩ = some (.string c0) := HO.out.cell 2 rfl 0 rfl
      have z2_1 : x62.cell? ⟨br, 1, none⟩ = some (.int .i64 c1) := HO.out.cell 2 rfl 1 rfl
      have z2_2 : x62.cell? ⟨br, 2, none⟩ = some (.int .i64 c2) := HO.out.cell 2 rfl 2 rfl
      have z2_3 : x62.cell? ⟨br, 3, none⟩ = some (.int .i64 c3) := HO.out.cell 2 rfl 3 rfl
      have z2_4 : x62.cell? ⟨br, 4, none⟩ = some (.string c4) := HO.out.cell 2 rfl 4 rfl
      go_wp2_with fail
      refine (o_still HO.out (HPK.out _)).mono ?_
      rintro e x63 ⟨rfl, hO, -⟩
      replace HO := Lib.hid (show Own w none0 x63 [blkR bd (.cells #[.int .i64 7, .bool true, .int .i64 0, .string ⟨#[97, 46, 98]⟩, .int .i64 1, .slice a1 k cap1] 26), rowR (.slice a1 k cap1) 28 5 k ((dS g k).flatMap cRc), blkR br (.cells #[.string c0, .int .i64 c1, .int .i64 c2, .int .i64 c3, .string c4] 28)] from hO)
      clear hO
      clear hx42 hbr k2_0_43 lk2_0_43 k2_1_44 lk2_1_44 k2_2_45 lk2_2_45 k2_3_46 lk2_3_46 k2_4_47 lk2_4_47 hx48 k2_1_49 lk2_1_49 k2_2_50 lk2_2_50 k2_3_51 lk2_3_51 k2_4_52 lk2_4_52 hx53 k2_2_54 lk2_2_54 k2_3_55 lk2_3_55 k2_4_56 lk2_4_56 hx57 k2_3_58 lk2_3_58 k2_4_59 lk2_4_59 hx60 k2_4_61 lk2_4_61 hx62 z2_0 z2_1 z2_2 z2_3 z2_4
      have z2_0 : x63.cell? ⟨br, 0, none⟩ = some (.string c0) := HO.out.cell 2 rfl 0 rfl
      have z2_1 : x63.cell? ⟨br, 1, none⟩ = some (.int .i64 c1) := HO.out.cell 2 rfl 1 rfl
      have z2_2 : x63.cell? ⟨br, 2, none⟩ = some (.int .i64 c2) := HO.out.cell 2 rfl 2 rfl
      have z2_3 : x63.cell? ⟨br, 3, none⟩ = some (.int .i64 c3) := HO.out.cell 2 rfl 3 rfl
      have z2_4 : x63.cell? ⟨br, 4, none⟩ = some (.string c4) := HO.out.cell 2 rfl 4 rfl
      have y2_2 : x63.frozen? ⟨br, 2, none⟩ = false := HO.out.frz 2 rfl 2
      obtain ⟨x64, hx64⟩ : ∃ y, x63.setCell ⟨br, 2, none⟩ (.int .i64 (1 + q)) = y := ⟨_, rfl⟩
      have hO := HO.out.setCell 2 rfl 2 (.int .i64 (1 + q))
      rw [hx64] at hO
      replace HO := Lib.hid (show Own w none0 x64 [blkR bd (.cells #[.int .i64 7, .bool true, .int .i64 0, .string ⟨#[97, 46, 98]⟩, .int .i64 1, .slice a1 k cap1] 26), rowR (.slice a1 k cap1) 28 5 k ((dS g k).flatMap cRc), blkR br (.cells #[.string c0, .int .i64 c1, .int .i64 (1 + q), .int .i64 c3, .string c4] 28)] from hO)
      clear hO
      have z2_0t : x64.cell? ⟨br, 0, none⟩ = some (.string c0) := HO.out.cell 2 rfl 0 rfl
      have z2_1t : x64.cell? ⟨br, 1, none⟩ = some (.int .i64 c1) := HO.out.cell 2 rfl 1 rfl
      have z2_2t : x64.cell? ⟨br, 2, none⟩ = some (.int .i64 (1 + q)) := HO.out.cell 2 rfl 2 rfl
      have z2_3t : x64.cell? ⟨br, 3, none⟩ = some (.int .i64 c3) := HO.out.cell 2 rfl 3 rfl
      have z2_4t : x64.cell? ⟨br, 4, none⟩ = some (.string c4) := HO.out.cell 2 rfl 4 rfl
      have z0_0 : x64.cell? ⟨bd, 0, none⟩ = some (.int .i64 7) := HO.out.cell 0 rfl 0 rfl
      have z0_1 : x64.cell? ⟨bd, 1, none⟩ = some (.bool true) := HO.out.cell 0 rfl 1 rfl
      have z0_2 : x64.cell? ⟨bd, 2, none⟩ = some (.int .i64 0) := HO.out.cell 0 rfl 2 rfl
      have z0_3 : x64.cell? ⟨bd, 3, none⟩ = some (.string ⟨#[97, 46, 98]⟩) := HO.out.cell 0 rfl 3 rfl
      have z0_4 : x64.cell? ⟨bd, 4, none⟩ = some (.int .i64 1) := HO.out.cell 0 rfl 4 rfl
      have z0_5 : x64.cell? ⟨bd, 5, none⟩ = some (.slice a1 k cap1) := HO.out.cell 0 rfl 5 rfl
      obtain ⟨x65, hx65⟩ : ∃ y, x64.alloc (.cells #[.string c0, .int .i64 c1, .int .i64 (1 + q), .int .i64 c3, .string c4] 28) = y := ⟨_, rfl⟩
      obtain ⟨bl, hbl⟩ : ∃ y, x64.heap.size = y := ⟨_, rfl⟩
      have hO := HO.out.alloc (.cells #[.string c0, .int .i64 c1, .int .i64 (1 + q), .int .i64 c3, .string c4] 28)
      rw [hx65, hbl] at hO
      replace HO := Lib.hid (show Own w none0 x65 [blkR bd (.cells #[.int .i64 7, .bool true, .int .i64 0, .string ⟨#[97, 46, 98]⟩, .int .i64 1, .slice a1 k cap1] 26), rowR (.slice a1 k cap1) 28 5 k ((dS g k).flatMap cRc), blkR br (.cells #[.string c0, .int .i64 c1, .int .i64 (1 + q), .int .i64 c3, .string c4] 28), blkR bl (.cells #[.string c0, .int .i64 c1, .int .i64 (1 + q), .int .i64 c3, .string c4] 28)] from hO)
      clear hO
      go_wp2_with ((at_builtin; refine (show _ = True → _ from fun h => of_eq_true h) ?_))
      refine eq_true ?_
      refine wpList_appO rfl (.tmp 42) (.tmp 44) 24 rfl Tryz.underlying24 infoRc rfl (by decide) HO.out 1 rfl rfl 3 1 1 (cRc ⟨c0, c1, 1 + q, c3, c4⟩) rfl rfl rfl (oneR _) (by unfold maxLen; omega) (by omega) ?_
      intro v' x66 hO
      clear z2_0 z2_1 z2_2 z2_3 z2_4 y2_2 hx64 z2_0t z2_1t z2_2t z2_3t z2_4t z0_0 z0_1 z0_2 z0_3 z0_4 z0_5 hx65 hbl
      simp only [List.set_cons_succ, List.set_cons_zero] at hO
      rw [← HDR.out, ← HRW.out] at hO
      obtain ⟨m, hm⟩ : ∃ y, k + 1 = y := ⟨_, rfl⟩
      have HM := Lib.hid hm
      rw [hm] at hO
      clear hm
      obtain ⟨a2, cap2, rfl⟩ := row_shape (Own.row hO 1 rfl)
      replace HO := Lib.hid (Own.take hO 2)
      clear hO
      replace HO := Lib.hid (show Own w none0 x66 [blkR bd (.cells #[.int .i64 7, .bool true, .int .i64 0, .string ⟨#[97, 46, 98]⟩, .int .i64 1, .slice a1 k cap1] 26), rowR (.slice a2 m cap2) 28 5 m ((dS g m).flatMap cRc)] from HO.out)
      have z0_5 : x66.cell? ⟨bd, 5, none⟩ = some (.slice a1 k cap1) := HO.out.cell 0 rfl 5 rfl
      have y0_5 : x66.frozen? ⟨bd, 5, none⟩ = false := HO.out.frz 0 rfl 5
      obtain ⟨x67, hx67⟩ : ∃ y, x66.setCell ⟨bd, 5, none⟩ (.slice a2 m cap2) = y := ⟨_, rfl⟩
      have hO := HO.out.setCell 0 rfl 5 (.slice a2 m cap2)
      rw [hx67] at hO
      replace HO := Lib.hid (show Own w none0 x67 [blkR bd (.cells #[.int .i64 7, .bool true, .int .i64 0, .string ⟨#[97, 46, 98]⟩, .int .i64 1, .slice a2 m cap2] 26), rowR (.slice a2 m cap2) 28 5 m ((dS g m).flatMap cRc)] from hO)
      clear hO
      go_wp2
      go_roundw
      case rel => exact ⟨m, a2, cap2, by have := HM.out; omega, by have := HM.out; subst this; go_num, HO.out⟩
      case measure => simp [intOf]; omega
    · obtain rfl : k = len := by omega
      have hd1 : decide ((k : Int) < (k : Int)) = false := decide_eq_false (by omega)
      have hN8 : k ≤ 8 := hN
      have HEN := Lib.hid (fun (w : World) (hr : w.ownsRow 0 28 5 (.slice a1 k cap1) k ((dS g k).flatMap cRc)) => encode_ok w hr (dS_len g k) (dS_msg g k hN8))
      have HDE := Lib.hid (fun (w : World) => decode_ok (w := w) (dS_len g k) (dS_msg g k hN8))
      obtain ⟨es, hes⟩ : ∃ y, (⟨(encM ⟨7, true, 0, ⟨#[97, 46, 98]⟩, 1, dS g k⟩).toArray⟩ : ByteArray) = y := ⟨_, rfl⟩
      rw [hes] at HEN HDE
      clear hes
      have HSA := Lib.hid (stores_all g k hN8)
      have HSB := Lib.hid (dS_B g k)
      have HSL := Lib.hid (dS_len g k)
      generalize dS g k = rs at *
      have z0_0 : wr.cell? ⟨bd, 0, none⟩ = some (.int .i64 7) := HO.out.cell 0 rfl 0 rfl
      have z0_1 : wr.cell? ⟨bd, 1, none⟩ = some (.bool true) := HO.out.cell 0 rfl 1 rfl
      have z0_2 : wr.cell? ⟨bd, 2, none⟩ = some (.int .i64 0) := HO.out.cell 0 rfl 2 rfl
      have z0_3 : wr.cell? ⟨bd, 3, none⟩ = some (.string ⟨#[97, 46, 98]⟩) := HO.out.cell 0 rfl 3 rfl
      have z0_4 : wr.cell? ⟨bd, 4, none⟩ = some (.int .i64 1) := HO.out.cell 0 rfl 4 rfl
      have z0_5 : wr.cell? ⟨bd, 5, none⟩ = some (.slice a1 k cap1) := HO.out.cell 0 rfl 5 rfl
      go_wp2_with fail
      refine (o_still HO.out (HEN.out _ (HO.out.row 1 rfl))).mono ?_
      rintro e x81 ⟨rfl, hO, -⟩
      replace HO := Lib.hid (show Own w none0 x81 [blkR bd (.cells #[.int .i64 7, .bool true, .int .i64 0, .string ⟨#[97, 46, 98]⟩, .int .i64 1, .slice a1 k cap1] 26), rowR (.slice a1 k cap1) 28 5 k (rs.flatMap cRc)] from hO)
      clear hO
      clear z0_0 z0_1 z0_2 z0_3 z0_4 z0_5
      go_wp2_with fail
      refine (HDE.out _).mono ?_
      rintro e x82 ⟨v, rfl, hO1⟩
      have hO := HO.out.joinC hO1
      clear hO1
      obtain ⟨a2, cap2, rfl⟩ := row_shape (Own.row hO 2 rfl)
      replace HO := Lib.hid (show Own w none0 x82 [blkR bd (.cells #[.int .i64 7, .bool true, .int .i64 0, .string ⟨#[97, 46, 98]⟩, .int .i64 1, .slice a1 k cap1] 26), rowR (.slice a1 k cap1) 28 5 k (rs.flatMap cRc), rowR (.slice a2 k cap2) 28 5 k (rs.flatMap cRc)] from hO)
      clear hO HEN HDE
      obtain ⟨x83, hx83⟩ : ∃ y, x82.alloc (.cells #[.int .i64 0, .bool false, .int .i64 0, .string ⟨#[]⟩, .int .i64 0, .slice none 0 0] 26) = y := ⟨_, rfl⟩
      obtain ⟨bx, hbx⟩ : ∃ y, x82.heap.size = y := ⟨_, rfl⟩
      have hO := HO.out.alloc (.cells #[.int .i64 0, .bool false, .int .i64 0, .string ⟨#[]⟩, .int .i64 0, .slice none 0 0] 26)
      rw [hx83, hbx] at hO
      replace HO := Lib.hid (show Own w none0 x83 [blkR bd (.cells #[.int .i64 7, .bool true, .int .i64 0, .string ⟨#[97, 46, 98]⟩, .int .i64 1, .slice a1 k cap1] 26), rowR (.slice a1 k cap1) 28 5 k (rs.flatMap cRc), rowR (.slice a2 k cap2) 28 5 k (rs.flatMap cRc), blkR bx (.cells #[.int .i64 0, .bool false, .int .i64 0, .string ⟨#[]⟩, .int .i64 0, .slice none 0 0] 26)] from hO)
      clear hO
      have k3_0_84 : x83.cell? ⟨bx, 0, none⟩ = some (.int .i64 0) := HO.out.cell 3 rfl 0 rfl
      have lk3_0_84 : x83.frozen? ⟨bx, 0, none⟩ = false := HO.out.frz 3 rfl 0
      have k3_1_85 : x83.cell? ⟨bx, 1, none⟩ = some (.bool false) := HO.out.cell 3 rfl 1 rfl
      have lk3_1_85 : x83.frozen? ⟨bx, 1, none⟩ = false := HO.out.frz 3 rfl 1
      have k3_2_86 : x83.cell? ⟨bx, 2, none⟩ = some (.int .i64 0) := HO.out.cell 3 rfl 2 rfl
      have lk3_2_86 : x83.frozen? ⟨bx, 2, none⟩ = false := HO.out.frz 3 rfl 2
      have k3_3_87 : x83.cell? ⟨bx, 3, none⟩ = some (.string ⟨#[]⟩) := HO.out.cell 3 rfl 3 rfl
      have lk3_3_87 : x83.frozen? ⟨bx, 3, none⟩ = false := HO.out.frz 3 rfl 3
      have k3_4_88 : x83.cell? ⟨bx, 4, none⟩ = some (.int .i64 0) := HO.out.cell 3 rfl 4 rfl
      have lk3_4_88 : x83.frozen? ⟨bx, 4, none⟩ = false := HO.out.frz 3 rfl 4
      have k3_5_89 : x83.cell? ⟨bx, 5, none⟩ = some (.slice none 0 0) := HO.out.cell 3 rfl 5 rfl
      have lk3_5_89 : x83.frozen? ⟨bx, 5, none⟩ = false := HO.out.frz 3 rfl 5
      obtain ⟨x90, hx90⟩ : ∃ y, x83.setCell ⟨bx, 0, none⟩ (.int .i64 7) = y := ⟨_, rfl⟩
      have hO := HO.out.setCell 3 rfl 0 (.int .i64 7)
      rw [hx90] at hO
      replace HO := Lib.hid (show Own w none0 x90 [blkR bd (.cells #[.int .i64 7, .bool true, .int .i64 0, .string ⟨#[97, 46, 98]⟩, .int .i64 1, .slice a1 k cap1] 26), rowR (.slice a1 k cap1) 28 5 k (rs.flatMap cRc), rowR (.slice a2 k cap2) 28 5 k (rs.flatMap cRc), blkR bx (.cells #[.int .i64 7, .bool false, .int .i64 0, .string ⟨#[]⟩, .int .i64 0, .slice none 0 0] 26)] from hO)
      clear hO
      have k3_1_91 : x90.cell? ⟨bx, 1, none⟩ = some (.bool false) := HO.out.cell 3 rfl 1 rfl
      have lk3_1_91 : x90.frozen? ⟨bx, 1, none⟩ = false := HO.out.frz 3 rfl 1
      have k3_2_92 : x90.cell? ⟨bx, 2, none⟩ = some (.int .i64 0) := HO.out.cell 3 rfl 2 rfl
      have lk3_2_92 : x90.frozen? ⟨bx, 2, none⟩ = false := HO.out.frz 3 rfl 2
      have k3_3_93 : x90.cell? ⟨bx, 3, none⟩ = some (.string ⟨#[]⟩) := HO.out.cell 3 rfl 3 rfl
      have lk3_3_93 : x90.frozen? ⟨bx, 3, none⟩ = false := HO.out.frz 3 rfl 3
      have k3_4_94 : x90.cell? ⟨bx, 4, none⟩ = some (.int .i64 0) := HO.out.cell 3 rfl 4 rfl
      have lk3_4_94 : x90.frozen? ⟨bx, 4, none⟩ = false := HO.out.frz 3 rfl 4
      have k3_5_95 : x90.cell? ⟨bx, 5, none⟩ = some (.slice none 0 0) := HO.out.cell 3 rfl 5 rfl
      have lk3_5_95 : x90.frozen? ⟨bx, 5, none⟩ = false := HO.out.frz 3 rfl 5
      obtain ⟨x96, hx96⟩ : ∃ y, x90.setCell ⟨bx, 1, none⟩ (.bool true) = y := ⟨_, rfl⟩
      have hO := HO.out.setCell 3 rfl 1 (.bool true)
      rw [hx96] at hO
      replace HO := Lib.hid (show Own w none0 x96 [blkR bd (.cells #[.int .i64 7, .bool true, .int .i64 0, .string ⟨#[97, 46, 98]⟩, .int .i64 1, .slice a1 k cap1] 26), rowR (.slice a1 k cap1) 28 5 k (rs.flatMap cRc), rowR (.slice a2 k cap2) 28 5 k (rs.flatMap cRc), blkR bx (.cells #[.int .i64 7, .bool true, .int .i64 0, .string ⟨#[]⟩, .int .i64 0, .slice none 0 0] 26)] from hO)
      clear hO
      have k3_2_97 : x96.cell? ⟨bx, 2, none⟩ = some (.int .i64 0) := HO.out.cell 3 rfl 2 rfl
      have lk3_2_97 : x96.frozen? ⟨bx, 2, none⟩ = false := HO.out.frz 3 rfl 2
      have k3_3_98 : x96.cell? ⟨bx, 3, none⟩ = some (.string ⟨#[]⟩) := HO.out.cell 3 rfl 3 rfl
      have lk3_3_98 : x96.frozen? ⟨bx, 3, none⟩ = false := HO.out.frz 3 rfl 3
      have k3_4_99 : x96.cell? ⟨bx, 4, none⟩ = some (.int .i64 0) := HO.out.cell 3 rfl 4 rfl
      have lk3_4_99 : x96.frozen? ⟨bx, 4, none⟩ = false := HO.out.frz 3 rfl 4
      have k3_5_100 : x96.cell? ⟨bx, 5, none⟩ = some (.slice none 0 0) := HO.out.cell 3 rfl 5 rfl
      have lk3_5_100 : x96.frozen? ⟨bx, 5, none⟩ = false := HO.out.frz 3 rfl 5
      obtain ⟨x101, hx101⟩ : ∃ y, x96.setCell ⟨bx, 2, none⟩ (.int .i64 0) = y := ⟨_, rfl⟩
      have hO := HO.out.setCell 3 rfl 2 (.int .i64 0)
      rw [hx101] at hO
      replace HO := Lib.hid (show Own w none0 x101 [blkR bd (.cells #[.int .i64 7, .bool true, .int .i64 0, .string ⟨#[97, 46, 98]⟩, .int .i64 1, .slice a1 k cap1] 26), rowR (.slice a1 k cap1) 28 5 k (rs.flatMap cRc), rowR (.slice a2 k cap2) 28 5 k (rs.flatMap cRc), blkR bx (.cells #[.int .i64 7, .bool true, .int .i64 0, .string ⟨#[]⟩, .int .i64 0, .slice none 0 0] 26)] from hO)
      clear hO
      have k3_3_102 : x101.cell? ⟨bx, 3, none⟩ = some (.string ⟨#[]⟩) := HO.out.cell 3 rfl 3 rfl
      have lk3_3_102 : x101.frozen? ⟨bx, 3, none⟩ = false := HO.out.frz 3 rfl 3
      have k3_4_103 : x101.cell? ⟨bx, 4, none⟩ = some (.int .i64 0) := HO.out.cell 3 rfl 4 rfl
      have lk3_4_103 : x101.frozen? ⟨bx, 4, none⟩ = false := HO.out.frz 3 rfl 4
      have k3_5_104 : x101.cell? ⟨bx, 5, none⟩ = some (.slice none 0 0) := HO.out.cell 3 rfl 5 rfl
      have lk3_5_104 : x101.frozen? ⟨bx, 5, none⟩ = false := HO.out.frz 3 rfl 5
      obtain ⟨x105, hx105⟩ : ∃ y, x101.setCell ⟨bx, 3, none⟩ (.string ⟨#[97, 46, 98]⟩) = y := ⟨_, rfl⟩
      have hO := HO.out.setCell 3 rfl 3 (.string ⟨#[97, 46, 98]⟩)
      rw [hx105] at hO
      replace HO := Lib.hid (show Own w none0 x105 [blkR bd (.cells #[.int .i64 7, .bool true, .int .i64 0, .string ⟨#[97, 46, 98]⟩, .int .i64 1, .slice a1 k cap1] 26), rowR (.slice a1 k cap1) 28 5 k (rs.flatMap cRc), rowR (.slice a2 k cap2) 28 5 k (rs.flatMap cRc), blkR bx (.cells #[.int .i64 7, .bool true, .int .i64 0, .string ⟨#[97, 46, 98]⟩, .int .i64 0, .slice none 0 0] 26)] from hO)
      clear hO
      have k3_4_106 : x105.cell? ⟨bx, 4, none⟩ = some (.int .i64 0) := HO.out.cell 3 rfl 4 rfl
      have lk3_4_106 : x105.frozen? ⟨bx, 4, none⟩ = false := HO.out.frz 3 rfl 4
      have k3_5_107 : x105.cell? ⟨bx, 5, none⟩ = some (.slice none 0 0) := HO.out.cell 3 rfl 5 rfl
      have lk3_5_107 : x105.frozen? ⟨bx, 5, none⟩ = false := HO.out.frz 3 rfl 5
      obtain ⟨x108, hx108⟩ : ∃ y, x105.setCell ⟨bx, 4, none⟩ (.int .i64 1) = y := ⟨_, rfl⟩
      have hO := HO.out.setCell 3 rfl 4 (.int .i64 1)
      rw [hx108] at hO
      replace HO := Lib.hid (show Own w none0 x108 [blkR bd (.cells #[.int .i64 7, .bool true, .int .i64 0, .string ⟨#[97, 46, 98]⟩, .int .i64 1, .slice a1 k cap1] 26), rowR (.slice a1 k cap1) 28 5 k (rs.flatMap cRc), rowR (.slice a2 k cap2) 28 5 k (rs.flatMap cRc), blkR bx (.cells #[.int .i64 7, .bool true, .int .i64 0, .string ⟨#[97, 46, 98]⟩, .int .i64 1, .slice none 0 0] 26)] from hO)
      clear hO
      have k3_5_109 : x108.cell? ⟨bx, 5, none⟩ = some (.slice none 0 0) := HO.out.cell 3 rfl 5 rfl
      have lk3_5_109 : x108.frozen? ⟨bx, 5, none⟩ = false := HO.out.frz 3 rfl 5
      obtain ⟨x110, hx110⟩ : ∃ y, x108.setCell ⟨bx, 5, none⟩ (.slice a2 k cap2) = y := ⟨_, rfl⟩
      have hO := HO.out.setCell 3 rfl 5 (.slice a2 k cap2)
      rw [hx110] at hO
      replace HO := Lib.hid (show Own w none0 x110 [blkR bd (.cells #[.int .i64 7, .bool true, .int .i64 0, .string ⟨#[97, 46, 98]⟩, .int .i64 1, .slice a1 k cap1] 26), rowR (.slice a1 k cap1) 28 5 k (rs.flatMap cRc), rowR (.slice a2 k cap2) 28 5 k (rs.flatMap cRc), blkR bx (.cells #[.int .i64 7, .bool true, .int .i64 0, .string ⟨#[97, 46, 98]⟩, .int .i64 1, .slice a2 k cap2] 26)] from hO)
      clear hO
      have z3_0 : x110.cell? ⟨bx, 0, none⟩ = some (.int .i64 7) := HO.out.cell 3 rfl 0 rfl
      have z3_1 : x110.cell? ⟨bx, 1, none⟩ = some (.bool true) := HO.out.cell 3 rfl 1 rfl
      have z3_2 : x110.cell? ⟨bx, 2, none⟩ = some (.int .i64 0) := HO.out.cell 3 rfl 2 rfl
      have z3_3 : x110.cell? ⟨bx, 3, none⟩ = some (.string ⟨#[97, 46, 98]⟩) := HO.out.cell 3 rfl 3 rfl
      have z3_4 : x110.cell? ⟨bx, 4, none⟩ = some (.int .i64 1) := HO.out.cell 3 rfl 4 rfl
      have z3_5 : x110.cell? ⟨bx, 5, none⟩ = some (.slice a2 k cap2) := HO.out.cell 3 rfl 5 rfl
      go_wp2_with fail
      refine (cnew_o HO.out).mono ?_
      rintro e x111 ⟨c, rfl, hO, -⟩
      replace HO := Lib.hid (show Own w none0 x111 [blkR bd (.cells #[.int .i64 7, .bool true, .int .i64 0, .string ⟨#[97, 46, 98]⟩, .int .i64 1, .slice a1 k cap1] 26), rowR (.slice a1 k cap1) 28 5 k (rs.flatMap cRc), rowR (.slice a2 k cap2) 28 5 k (rs.flatMap cRc), blkR bx (.cells #[.int .i64 7, .bool true, .int .i64 0, .string ⟨#[97, 46, 98]⟩, .int .i64 1, .slice a2 k cap2] 26), resC c []] from hO)
      clear hO
      clear hx83 hbx k3_0_84 lk3_0_84 k3_1_85 lk3_1_85 k3_2_86 lk3_2_86 k3_3_87 lk3_3_87 k3_4_88 lk3_4_88 k3_5_89 lk3_5_89 hx90 k3_1_91 lk3_1_91 k3_2_92 lk3_2_92 k3_3_93 lk3_3_93 k3_4_94 lk3_4_94 k3_5_95 lk3_5_95 hx96 k3_2_97 lk3_2_97 k3_3_98 lk3_3_98 k3_4_99 lk3_4_99 k3_5_100 lk3_5_100 hx101 k3_3_102 lk3_3_102 k3_4_103 lk3_4_103 k3_5_104 lk3_5_104 hx105 k3_4_106 lk3_4_106 k3_5_107 lk3_5_107 hx108 k3_5_109 lk3_5_109 hx110 z3_0 z3_1 z3_2 z3_3 z3_4 z3_5
      have z3_0 : x111.cell? ⟨bx, 0, none⟩ = some (.int .i64 7) := HO.out.cell 3 rfl 0 rfl
      have z3_1 : x111.cell? ⟨bx, 1, none⟩ = some (.bool true) := HO.out.cell 3 rfl 1 rfl
      have z3_2 : x111.cell? ⟨bx, 2, none⟩ = some (.int .i64 0) := HO.out.cell 3 rfl 2 rfl
      have z3_3 : x111.cell? ⟨bx, 3, none⟩ = some (.string ⟨#[97, 46, 98]⟩) := HO.out.cell 3 rfl 3 rfl
      have z3_4 : x111.cell? ⟨bx, 4, none⟩ = some (.int .i64 1) := HO.out.cell 3 rfl 4 rfl
      have z3_5 : x111.cell? ⟨bx, 5, none⟩ = some (.slice a2 k cap2) := HO.out.cell 3 rfl 5 rfl
      go_wp2
      clear z3_0 z3_1 z3_2 z3_3 z3_4 z3_5
      have HO := Lib.hid (show Own w none0 x111 [blkR bd (.cells #[.int .i64 7, .bool true, .int .i64 0, .string ⟨#[97, 46, 98]⟩, .int .i64 1, .slice a1 k cap1] 26), rowR (.slice a1 k cap1) 28 5 k (rs.flatMap cRc), rowR (.slice a2 k cap2) 28 5 k (rs.flatMap cRc), blkR bx (.cells #[.int .i64 7, .bool true, .int .i64 0, .string ⟨#[97, 46, 98]⟩, .int .i64 1, .slice a2 k cap2] 26), resC c (ptS (rs.take 0))] from HO.out)
      go_loopw [12] (fun iv wr => ∃ k2 : Nat, k2 ≤ k ∧ iv = .int .i64 k2 ∧ Own w none0 wr [blkR bd (.cells #[.int .i64 7, .bool true, .int .i64 0, .string ⟨#[97, 46, 98]⟩, .int .i64 1, .slice a1 k cap1] 26), rowR (.slice a1 k cap1) 28 5 k (rs.flatMap cRc), rowR (.slice a2 k cap2) 28 5 k (rs.flatMap cRc), blkR bx (.cells #[.int .i64 7, .bool true, .int .i64 0, .string ⟨#[97, 46, 98]⟩, .int .i64 1, .slice a2 k cap2] 26), resC c (ptS (rs.take k2))]) (fun iv _ => k - (intOf iv).toNat)
      case atStart => exact ⟨0, Nat.zero_le _, rfl, HO.out⟩
      case round =>
        obtain ⟨k2, hk2, rfl, hO⟩ := hrel
        replace HO := Lib.hid hO
        clear hO
        by_cases hlt2 : k2 < k
        · have hdl : decide ((k2 : Int) < (k : Int)) = true := decide_eq_true (by omega)
          have hkl : k2 < rs.length := by have := HSL.out; omega
          obtain ⟨g2, rfl⟩ := row_some (HO.out.row 2 rfl) (by omega)
          have yc : ∀ q u, q < 5 → (cRc rs[k2])[q]? = some u → wr.cell? ⟨g2, k2 * 5 + q, none⟩ = some u := fun q u hq hu => (row_cells (HO.out.row 2 rfl)).1 _ _ (by rw [flat_getR cRc 5 (fun _ => rfl) rs k2 hkl q hq]; exact hu)
          have hsb := HSB.out rs[k2] (List.getElem_mem hkl)
          have HPT := Lib.hid (ptS_take rs k2 hkl).symm
          have HIV := Lib.hid (ptS_inv (rs.take k2)).1.len
          obtain ⟨S1, hS1⟩ : ∃ y, ptS (rs.take (k2 + 1)) = y := ⟨_, rfl⟩
          rw [hS1] at HPT
          have HS1 := Lib.hid hS1
          clear hS1
          generalize ptS (rs.take k2) = S0 at *
          generalize rs[k2] = x at *
          obtain ⟨rn, rk, rt, ra, ro⟩ := x
          obtain ⟨hb1, hb2, hb3⟩ := hsb
          have HB := Lib.hid hb1
          have HNX := Lib.hid (show rn.size ≤ maxLen by have := vname_sz hb3.nm; unfold maxLen; simp only at this; omega)
          have HNT := Lib.hid (show ro.size ≤ maxLen by
            rcases hb3.al with ⟨_, _, h⟩ | ⟨_, h, _⟩
            · rw [show ro = ⟨#[]⟩ from toList_nil h]; decide
            · have := vname_sz h; unfold maxLen; simp only at this; omega)
          clear hb1 hb2 hb3 hkl
          have y0 : wr.cell? ⟨g2, k2 * 5, none⟩ = some (.string rn) := yc 0 _ (by decide) rfl
          have y1 : wr.cell? ⟨g2, k2 * 5 + 1, none⟩ = some (.int .i64 rk) := yc 1 _ (by decide) rfl
          have y2 : wr.cell? ⟨g2, k2 * 5 + 2, none⟩ = some (.int .i64 rt) := yc 2 _ (by decide) rfl
          have y3 : wr.cell? ⟨g2, k2 * 5 + 3, none⟩ = some (.int .i64 ra) := yc 3 _ (by decide) rfl
          have y4 : wr.cell? ⟨g2, k2 * 5 + 4, none⟩ = some (.string ro) := yc 4 _ (by decide) rfl
          clear yc
          have z3_0 : wr.cell? ⟨bx, 0, none⟩ = some (.int .i64 7) := HO.out.cell 3 rfl 0 rfl
          have z3_1 : wr.cell? ⟨bx, 1, none⟩ = some (.bool true) := HO.out.cell 3 rfl 1 rfl
          have z3_2 : wr.cell? ⟨bx, 2, none⟩ = some (.int .i64 0) := HO.out.cell 3 rfl 2 rfl
          have z3_3 : wr.cell? ⟨bx, 3, none⟩ = some (.string ⟨#[97, 46, 98]⟩) := HO.out.cell 3 rfl 3 rfl
          have z3_4 : wr.cell? ⟨bx, 4, none⟩ = some (.int .i64 1) := HO.out.cell 3 rfl 4 rfl
          have z3_5 : wr.cell? ⟨bx, 5, none⟩ = some (.slice (some ⟨g2, 0, none⟩) k cap2) := HO.out.cell 3 rfl 5 rfl
          go_wp2_with fail
          refine (put_r 100 ⟨rn, rk, rt, ra, ro⟩ HO.out 4 rfl (keep HO.out.below HG.out) HNX.out HNT.out HIV.out HPT.out (putE_ok HB.out)).mono ?_
          rintro e x141 ⟨rfl, hO, -⟩
          replace HO := Lib.hid (show Own w none0 x141 [blkR bd (.cells #[.int .i64 7, .bool true, .int .i64 0, .string ⟨#[97, 46, 98]⟩, .int .i64 1, .slice a1 k cap1] 26), rowR (.slice a1 k cap1) 28 5 k (rs.flatMap cRc), rowR (.slice (some ⟨g2, 0, none⟩) k cap2) 28 5 k (rs.flatMap cRc), blkR bx (.cells #[.int .i64 7, .bool true, .int .i64 0, .string ⟨#[97, 46, 98]⟩, .int .i64 1, .slice (some ⟨g2, 0, none⟩) k cap2] 26), resC c S1] from hO)
          clear hO
          clear y0 y1 y2 y3 y4 z3_0 z3_1 z3_2 z3_3 z3_4 z3_5
          rw [← HS1.out] at HO
          go_wp2
          go_roundw
          case rel => exact ⟨k2 + 1, by omega, by go_num, HO.out⟩
          case measure => simp [intOf]; omega
        · obtain rfl : k2 = k := by omega
          have hdl : decide ((k2 : Int) < (k2 : Int)) = false := decide_eq_false (by omega)
          rw [show rs.take k2 = rs from List.take_of_length_le (by have := HSL.out; omega)] at HO
          have HLI := Lib.hid (ptS_inv rs).1
          have HLL := Lib.hid (show (ptS rs).length ≤ k2 by have := (ptS_inv rs).2; have := HSL.out; omega)
          generalize ptS rs = l at *
          have z0_0 : wr.cell? ⟨bd, 0, none⟩ = some (.int .i64 7) := HO.out.cell 0 rfl 0 rfl
          have z0_1 : wr.cell? ⟨bd, 1, none⟩ = some (.bool true) := HO.out.cell 0 rfl 1 rfl
          have z0_2 : wr.cell? ⟨bd, 2, none⟩ = some (.int .i64 0) := HO.out.cell 0 rfl 2 rfl
          have z0_3 : wr.cell? ⟨bd, 3, none⟩ = some (.string ⟨#[97, 46, 98]⟩) := HO.out.cell 0 rfl 3 rfl
          have z0_4 : wr.cell? ⟨bd, 4, none⟩ = some (.int .i64 1) := HO.out.cell 0 rfl 4 rfl
          have z0_5 : wr.cell? ⟨bd, 5, none⟩ = some (.slice a1 k2 cap1) := HO.out.cell 0 rfl 5 rfl
          have z3_0 : wr.cell? ⟨bx, 0, none⟩ = some (.int .i64 7) := HO.out.cell 3 rfl 0 rfl
          have z3_1 : wr.cell? ⟨bx, 1, none⟩ = some (.bool true) := HO.out.cell 3 rfl 1 rfl
          have z3_2 : wr.cell? ⟨bx, 2, none⟩ = some (.int .i64 0) := HO.out.cell 3 rfl 2 rfl
          have z3_3 : wr.cell? ⟨bx, 3, none⟩ = some (.string ⟨#[97, 46, 98]⟩) := HO.out.cell 3 rfl 3 rfl
          have z3_4 : wr.cell? ⟨bx, 4, none⟩ = some (.int .i64 1) := HO.out.cell 3 rfl 4 rfl
          have z3_5 : wr.cell? ⟨bx, 5, none⟩ = some (.slice a2 k2 cap2) := HO.out.cell 3 rfl 5 rfl
          go_wp2
          clear z0_0 z0_1 z0_2 z0_3 z0_4 z0_5 z3_0 z3_1 z3_2 z3_3 z3_4 z3_5
          have HO := Lib.hid (show Own w none0 wr [blkR bd (.cells #[.int .i64 7, .bool true, .int .i64 0, .string ⟨#[97, 46, 98]⟩, .int .i64 1, .slice a1 k2 cap1] 26), rowR (.slice a1 k2 cap1) 28 5 k2 (rs.flatMap cRc), rowR (.slice a2 k2 cap2) 28 5 k2 (rs.flatMap cRc), blkR bx (.cells #[.int .i64 7, .bool true, .int .i64 0, .string ⟨#[97, 46, 98]⟩, .int .i64 1, .slice a2 k2 cap2] 26), resC c l] from HO.out)
          go_loopw [13] (fun iv wr => ∃ k3 : Nat, k3 ≤ k2 ∧ iv = .int .i64 k3 ∧ Own w none0 wr [blkR bd (.cells #[.int .i64 7, .bool true, .int .i64 0, .string ⟨#[97, 46, 98]⟩, .int .i64 1, .slice a1 k2 cap1] 26), rowR (.slice a1 k2 cap1) 28 5 k2 (rs.flatMap cRc), rowR (.slice a2 k2 cap2) 28 5 k2 (rs.flatMap cRc), blkR bx (.cells #[.int .i64 7, .bool true, .int .i64 0, .string ⟨#[97, 46, 98]⟩, .int .i64 1, .slice a2 k2 cap2] 26), resC c l]) (fun iv _ => k2 - (intOf iv).toNat)
          case atStart => exact ⟨0, Nat.zero_le _, rfl, HO.out⟩
          case round =>
            obtain ⟨k3, hk3, rfl, hO⟩ := hrel
            replace HO := Lib.hid hO
            clear hO
            by_cases hlt3 : k3 < k2
            · have hdl : decide ((k3 : Int) < (k2 : Int)) = true := decide_eq_true (by omega)
              have hkl : k3 < rs.length := by have := HSL.out; omega
              obtain ⟨g1, rfl⟩ := row_some (HO.out.row 1 rfl) (by omega)
              have HYC := Lib.hid (show ∀ (W : World), Own w none0 W [blkR bd (.cells #[.int .i64 7, .bool true, .int .i64 0, .string ⟨#[97, 46, 98]⟩, .int .i64 1, .slice (some ⟨g1, 0, none⟩) k2 cap1] 26), rowR (.slice (some ⟨g1, 0, none⟩) k2 cap1) 28 5 k2 (rs.flatMap cRc), rowR (.slice a2 k2 cap2) 28 5 k2 (rs.flatMap cRc), blkR bx (.cells #[.int .i64 7, .bool true, .int .i64 0, .string ⟨#[97, 46, 98]⟩, .int .i64 1, .slice a2 k2 cap2] 26), resC c l] → ∀ q u, q < 5 → (cRc rs[k3])[q]? = some u → W.cell? ⟨g1, k3 * 5 + q, none⟩ = some u from fun W hW q u hq hu => (row_cells (hW.row 1 rfl)).1 _ _ (by rw [flat_getR cRc 5 (fun _ => rfl) rs k3 hkl q hq]; exact hu))
              have hsa := HSA.out k3 hkl
              generalize rs[k3] = x at *
              obtain ⟨rn, rk, rt, ra, ro⟩ := x
              simp only at hsa
              obtain ⟨m, hm⟩ : ∃ y, lookD 100 rn l = y := ⟨_, rfl⟩
              obtain ⟨kn, hkn⟩ : ∃ y, knwD 100 rn l = y := ⟨_, rfl⟩
              rw [hm, hkn] at hsa
              have HM := Lib.hid hm
              have HK := Lib.hid hkn
              have HML := Lib.hid (show m.length ≤ 32 by rw [← hm, lookD_len]; exact Nat.le_trans (recs_len_le _ _ _) HLI.out.len)
              obtain ⟨hs1, rfl⟩ := hsa
              have HS1 := Lib.hid hs1
              clear hm hkn hs1 hkl
              have y0 : wr.cell? ⟨g1, k3 * 5, none⟩ = some (.string rn) := HYC.out wr HO.out 0 _ (by decide) rfl
              have z0_0 : wr.cell? ⟨bd, 0, none⟩ = some (.int .i64 7) := HO.out.cell 0 rfl 0 rfl
              have z0_1 : wr.cell? ⟨bd, 1, none⟩ = some (.bool true) := HO.out.cell 0 rfl 1 rfl
              have z0_2 : wr.cell? ⟨bd, 2, none⟩ = some (.int .i64 0) := HO.out.cell 0 rfl 2 rfl
              have z0_3 : wr.cell? ⟨bd, 3, none⟩ = some (.string ⟨#[97, 46, 98]⟩) := HO.out.cell 0 rfl 3 rfl
              have z0_4 : wr.cell? ⟨bd, 4, none⟩ = some (.int .i64 1) := HO.out.cell 0 rfl 4 rfl
              have z0_5 : wr.cell? ⟨bd, 5, none⟩ = some (.slice (some ⟨g1, 0, none⟩) k2 cap1) := HO.out.cell 0 rfl 5 rfl
              go_wp2_with fail
              refine (look_d (m := m) (k := true) (100) rn HO.out 4 rfl (HLI.out.len) (HLI.out.ap) HM.out HK.out).mono ?_
              rintro e x201 ⟨p1, p1c, rfl, hO, -⟩
              replace HO := Lib.hid (show Own w none0 x201 [blkR bd (.cells #[.int .i64 7, .bool true, .int .i64 0, .string ⟨#[97, 46, 98]⟩, .int .i64 1, .slice (some ⟨g1, 0, none⟩) k2 cap1] 26), rowR (.slice (some ⟨g1, 0, none⟩) k2 cap1) 28 5 k2 (rs.flatMap cRc), rowR (.slice a2 k2 cap2) 28 5 k2 (rs.flatMap cRc), blkR bx (.cells #[.int .i64 7, .bool true, .int .i64 0, .string ⟨#[97, 46, 98]⟩, .int .i64 1, .slice a2 k2 cap2] 26), resC c l, rowR (.slice p1 m.length p1c) 28 5 m.length (m.flatMap cRc)] from hO)
              clear hO
              clear y0 z0_0 z0_1 z0_2 z0_3 z0_4 z0_5
              clear HM HK
              obtain ⟨ml, hml⟩ : ∃ y, m.length = y := ⟨_, rfl⟩
              have HMN := Lib.hid hml
              rw [hml] at HO HML ⊢
              clear hml
              go_wp2
              go_loopw [16, 17] (fun nv iv wr => ∃ j : Nat, j ≤ ml ∧ iv = .int .i64 j ∧ nv = .int .i64 (((m.take j).countP (mtB ⟨rn, rk, rt, ra, ro⟩) : Nat) : Int) ∧ Own w none0 wr [blkR bd (.cells #[.int .i64 7, .bool true, .int .i64 0, .string ⟨#[97, 46, 98]⟩, .int .i64 1, .slice (some ⟨g1, 0, none⟩) k2 cap1] 26), rowR (.slice (some ⟨g1, 0, none⟩) k2 cap1) 28 5 k2 (rs.flatMap cRc), rowR (.slice a2 k2 cap2) 28 5 k2 (rs.flatMap cRc), blkR bx (.cells #[.int .i64 7, .bool true, .int .i64 0, .string ⟨#[97, 46, 98]⟩, .int .i64 1, .slice a2 k2 cap2] 26), resC c l, rowR (.slice p1 ml p1c) 28 5 ml (m.flatMap cRc)]) (fun _ iv _ => ml - (intOf iv).toNat)
              case atStart => exact ⟨0, Nat.zero_le _, rfl, rfl, HO.out⟩
              case round =>
                obtain ⟨j, hj, rfl, rfl, hO⟩ := hrel
                replace HO := Lib.hid hO
                clear hO
                by_cases hlt4 : j < ml
                · have hkm : j < m.length := by have := HMN.out; omega
                  have hdj : decide ((j : Int) < (ml : Int)) = true := decide_eq_true (by omega)
                  have hrw := HO.out.row 5 rfl
                  obtain ⟨g5, rfl⟩ := row_some hrw (by omega)
                  have yc : ∀ q s, q < 5 → (cRc m[j])[q]? = some s → wr.cell? ⟨g5, j * 5 + q, none⟩ = some s := fun q s hq hs => (row_cells hrw).1 _ _ (by rw [flat_getR cRc 5 (fun _ => rfl) m j hkm q hq]; exact hs)
                  have HCY := Lib.hid (fun h : mtB ⟨rn, rk, rt, ra, ro⟩ m[j] = true => count_yes hkm h)
                  have HCN := Lib.hid (fun h : mtB ⟨rn, rk, rt, ra, ro⟩ m[j] = false => count_no hkm h)
                  clear hrw
                  generalize m[j] = y at *
                  obtain ⟨d0, d1, d2, d3, d4⟩ := y
                  have y0 : wr.cell? ⟨g5, j * 5, none⟩ = some (.string d0) := yc 0 _ (by decide) rfl
                  have y1 : wr.cell? ⟨g5, j * 5 + 1, none⟩ = some (.int .i64 d1) := yc 1 _ (by decide) rfl
                  have y2 : wr.cell? ⟨g5, j * 5 + 2, none⟩ = some (.int .i64 d2) := yc 2 _ (by decide) rfl
                  have y3 : wr.cell? ⟨g5, j * 5 + 3, none⟩ = some (.int .i64 d3) := yc 3 _ (by decide) rfl
                  have y4 : wr.cell? ⟨g5, j * 5 + 4, none⟩ = some (.string d4) := yc 4 _ (by decide) rfl
                  clear yc
                  clear hkm
                  generalize hcp : (m.take j).countP (mtB ⟨rn, rk, rt, ra, ro⟩) = cp at *
                  have HCL := Lib.hid (show cp ≤ j by rw [← hcp]; exact Nat.le_trans (List.countP_le_length) (List.length_take_le _ _))
                  clear hcp
                  obtain ⟨x202, hx202⟩ : ∃ y, wr.alloc (.cells #[.string ⟨#[]⟩, .int .i64 0, .int .i64 0, .int .i64 0, .string ⟨#[]⟩] 28) = y := ⟨_, rfl⟩
                  obtain ⟨bz, hbz⟩ : ∃ y, wr.heap.size = y := ⟨_, rfl⟩
                  have hO := HO.out.alloc (.cells #[.string ⟨#[]⟩, .int .i64 0, .int .i64 0, .int .i64 0, .string ⟨#[]⟩] 28)
                  rw [hx202, hbz] at hO
                  replace HO := Lib.hid (show Own w none0 x202 [blkR bd (.cells #[.int .i64 7, .bool true, .int .i64 0, .string ⟨#[97, 46, 98]⟩, .int .i64 1, .slice (some ⟨g1, 0, none⟩) k2 cap1] 26), rowR (.slice (some ⟨g1, 0, none⟩) k2 cap1) 28 5 k2 (rs.flatMap cRc), rowR (.slice a2 k2 cap2) 28 5 k2 (rs.flatMap cRc), blkR bx (.cells #[.int .i64 7, .bool true, .int .i64 0, .string ⟨#[97, 46, 98]⟩, .int .i64 1, .slice a2 k2 cap2] 26), resC c l, rowR (.slice (some ⟨g5, 0, none⟩) ml p1c) 28 5 ml (m.flatMap cRc), blkR bz (.cells #[.string ⟨#[]⟩, .int .i64 0, .int .i64 0, .int .i64 0, .string ⟨#[]⟩] 28)] from hO)
                  clear hO
                  have k6_0_203 : x202.cell? ⟨bz, 0, none⟩ = some (.string ⟨#[]⟩) := HO.out.cell 6 rfl 0 rfl
                  have lk6_0_203 : x202.frozen? ⟨bz, 0, none⟩ = false := HO.out.frz 6 rfl 0
                  have k6_1_204 : x202.cell? ⟨bz, 1, none⟩ = some (.int .i64 0) := HO.out.cell 6 rfl 1 rfl
                  have lk6_1_204 : x202.frozen? ⟨bz, 1, none⟩ = false := HO.out.frz 6 rfl 1
                  have k6_2_205 : x202.cell? ⟨bz, 2, none⟩ = some (.int .i64 0) := HO.out.cell 6 rfl 2 rfl
                  have lk6_2_205 : x202.frozen? ⟨bz, 2, none⟩ = false := HO.out.frz 6 rfl 2
                  have k6_3_206 : x202.cell? ⟨bz, 3, none⟩ = some (.int .i64 0) := HO.out.cell 6 rfl 3 rfl
                  have lk6_3_206 : x202.frozen? ⟨bz, 3, none⟩ = false := HO.out.frz 6 rfl 3
                  have k6_4_207 : x202.cell? ⟨bz, 4, none⟩ = some (.string ⟨#[]⟩) := HO.out.cell 6 rfl 4 rfl
                  have lk6_4_207 : x202.frozen? ⟨bz, 4, none⟩ = false := HO.out.frz 6 rfl 4
                  obtain ⟨x208, hx208⟩ : ∃ y, x202.setCell ⟨bz, 0, none⟩ (.string d0) = y := ⟨_, rfl⟩
                  have hO := HO.out.setCell 6 rfl 0 (.string d0)
                  rw [hx208] at hO
                  replace HO := Lib.hid (show Own w none0 x208 [blkR bd (.cells #[.int .i64 7, .bool true, .int .i64 0, .string ⟨#[97, 46, 98]⟩, .int .i64 1, .slice (some ⟨g1, 0, none⟩) k2 cap1] 26), rowR (.slice (some ⟨g1, 0, none⟩) k2 cap1) 28 5 k2 (rs.flatMap cRc), rowR (.slice a2 k2 cap2) 28 5 k2 (rs.flatMap cRc), blkR bx (.cells #[.int .i64 7, .bool true, .int .i64 0, .string ⟨#[97, 46, 98]⟩, .int .i64 1, .slice a2 k2 cap2] 26), resC c l, rowR (.slice (some ⟨g5, 0, none⟩) ml p1c) 28 5 ml (m.flatMap cRc), blkR bz (.cells #[.string d0, .int .i64 0, .int .i64 0, .int .i64 0, .string ⟨#[]⟩] 28)] from hO)
                  clear hO
                  have k6_1_209 : x208.cell? ⟨bz, 1, none⟩ = some (.int .i64 0) := HO.out.cell 6 rfl 1 rfl
                  have lk6_1_209 : x208.frozen? ⟨bz, 1, none⟩ = false := HO.out.frz 6 rfl 1
                  have k6_2_210 : x208.cell? ⟨bz, 2, none⟩ = some (.int .i64 0) := HO.out.cell 6 rfl 2 rfl
                  have lk6_2_210 : x208.frozen? ⟨bz, 2, none⟩ = false := HO.out.frz 6 rfl 2
                  have k6_3_211 : x208.cell? ⟨bz, 3, none⟩ = some (.int .i64 0) := HO.out.cell 6 rfl 3 rfl
                  have lk6_3_211 : x208.frozen? ⟨bz, 3, none⟩ = false := HO.out.frz 6 rfl 3
                  have k6_4_212 : x208.cell? ⟨bz, 4, none⟩ = some (.string ⟨#[]⟩) := HO.out.cell 6 rfl 4 rfl
                  have lk6_4_212 : x208.frozen? ⟨bz, 4, none⟩ = false := HO.out.frz 6 rfl 4
                  obtain ⟨x213, hx213⟩ : ∃ y, x208.setCell ⟨bz, 1, none⟩ (.int .i64 d1) = y := ⟨_, rfl⟩
                  have hO := HO.out.setCell 6 rfl 1 (.int .i64 d1)
                  rw [hx213] at hO
                  replace HO := Lib.hid (show Own w none0 x213 [blkR bd (.cells #[.int .i64 7, .bool true, .int .i64 0, .string ⟨#[97, 46, 98]⟩, .int .i64 1, .slice (some ⟨g1, 0, none⟩) k2 cap1] 26), rowR (.slice (some ⟨g1, 0, none⟩) k2 cap1) 28 5 k2 (rs.flatMap cRc), rowR (.slice a2 k2 cap2) 28 5 k2 (rs.flatMap cRc), blkR bx (.cells #[.int .i64 7, .bool true, .int .i64 0, .string ⟨#[97, 46, 98]⟩, .int .i64 1, .slice a2 k2 cap2] 26), resC c l, rowR (.slice (some ⟨g5, 0, none⟩) ml p1c) 28 5 ml (m.flatMap cRc), blkR bz (.cells #[.string d0, .int .i64 d1, .int .i64 0, .int .i64 0, .string ⟨#[]⟩] 28)] from hO)
                  clear hO
                  have k6_2_214 : x213.cell? ⟨bz, 2, none⟩ = some (.int .i64 0) := HO.out.cell 6 rfl 2 rfl
                  have lk6_2_214 : x213.frozen? ⟨bz, 2, none⟩ = false := HO.out.frz 6 rfl 2
                  have k6_3_215 : x213.cell? ⟨bz, 3, none⟩ = some (.int .i64 0) := HO.out.cell 6 rfl 3 rfl
                  have lk6_3_215 : x213.frozen? ⟨bz, 3, none⟩ = false := HO.out.frz 6 rfl 3
                  have k6_4_216 : x213.cell? ⟨bz, 4, none⟩ = some (.string ⟨#[]⟩) := HO.out.cell 6 rfl 4 rfl
                  have lk6_4_216 : x213.frozen? ⟨bz, 4, none⟩ = false := HO.out.frz 6 rfl 4
                  obtain ⟨x217, hx217⟩ : ∃ y, x213.setCell ⟨bz, 2, none⟩ (.int .i64 d2) = y := ⟨_, rfl⟩
                  have hO := HO.out.setCell 6 rfl 2 (.int .i64 d2)
                  rw [hx217] at hO
                  replace HO := Lib.hid (show Own w none0 x217 [blkR bd (.cells #[.int .i64 7, .bool true, .int .i64 0, .string ⟨#[97, 46, 98]⟩, .int .i64 1, .slice (some ⟨g1, 0, none⟩) k2 cap1] 26), rowR (.slice (some ⟨g1, 0, none⟩) k2 cap1) 28 5 k2 (rs.flatMap cRc), rowR (.slice a2 k2 cap2) 28 5 k2 (rs.flatMap cRc), blkR bx (.cells #[.int .i64 7, .bool true, .int .i64 0, .string ⟨#[97, 46, 98]⟩, .int .i64 1, .slice a2 k2 cap2] 26), resC c l, rowR (.slice (some ⟨g5, 0, none⟩) ml p1c) 28 5 ml (m.flatMap cRc), blkR bz (.cells #[.string d0, .int .i64 d1, .int .i64 d2, .int .i64 0, .string ⟨#[]⟩] 28)] from hO)
                  clear hO
                  have k6_3_218 : x217.cell? ⟨bz, 3, none⟩ = some (.int .i64 0) := HO.out.cell 6 rfl 3 rfl
                  have lk6_3_218 : x217.frozen? ⟨bz, 3, none⟩ = false := HO.out.frz 6 rfl 3
                  have k6_4_219 : x217.cell? ⟨bz, 4, none⟩ = some (.string ⟨#[]⟩) := HO.out.cell 6 rfl 4 rfl
                  have lk6_4_219 : x217.frozen? ⟨bz, 4, none⟩ = false := HO.out.frz 6 rfl 4
                  obtain ⟨x220, hx220⟩ : ∃ y, x217.setCell ⟨bz, 3, none⟩ (.int .i64 d3) = y := ⟨_, rfl⟩
                  have hO := HO.out.setCell 6 rfl 3 (.int .i64 d3)
                  rw [hx220] at hO
                  replace HO := Lib.hid (show Own w none0 x220 [blkR bd (.cells #[.int .i64 7, .bool true, .int .i64 0, .string ⟨#[97, 46, 98]⟩, .int .i64 1, .slice (some ⟨g1, 0, none⟩) k2 cap1] 26), rowR (.slice (some ⟨g1, 0, none⟩) k2 cap1) 28 5 k2 (rs.flatMap cRc), rowR (.slice a2 k2 cap2) 28 5 k2 (rs.flatMap cRc), blkR bx (.cells #[.int .i64 7, .bool true, .int .i64 0, .string ⟨#[97, 46, 98]⟩, .int .i64 1, .slice a2 k2 cap2] 26), resC c l, rowR (.slice (some ⟨g5, 0, none⟩) ml p1c) 28 5 ml (m.flatMap cRc), blkR bz (.cells #[.string d0, .int .i64 d1, .int .i64 d2, .int .i64 d3, .string ⟨#[]⟩] 28)] from hO)
                  clear hO
                  have k6_4_221 : x220.cell? ⟨bz, 4, none⟩ = some (.string ⟨#[]⟩) := HO.out.cell 6 rfl 4 rfl
                  have lk6_4_221 : x220.frozen? ⟨bz, 4, none⟩ = false := HO.out.frz 6 rfl 4
                  obtain ⟨x222, hx222⟩ : ∃ y, x220.setCell ⟨bz, 4, none⟩ (.string d4) = y := ⟨_, rfl⟩
                  have hO := HO.out.setCell 6 rfl 4 (.string d4)
                  rw [hx222] at hO
                  replace HO := Lib.hid (show Own w none0 x222 [blkR bd (.cells #[.int .i64 7, .bool true, .int .i64 0, .string ⟨#[97, 46, 98]⟩, .int .i64 1, .slice (some ⟨g1, 0, none⟩) k2 cap1] 26), rowR (.slice (some ⟨g1, 0, none⟩) k2 cap1) 28 5 k2 (rs.flatMap cRc), rowR (.slice a2 k2 cap2) 28 5 k2 (rs.flatMap cRc), blkR bx (.cells #[.int .i64 7, .bool true, .int .i64 0, .string ⟨#[97, 46, 98]⟩, .int .i64 1, .slice a2 k2 cap2] 26), resC c l, rowR (.slice (some ⟨g5, 0, none⟩) ml p1c) 28 5 ml (m.flatMap cRc), blkR bz (.cells #[.string d0, .int .i64 d1, .int .i64 d2, .int .i64 d3, .string d4] 28)] from hO)
                  clear hO
                  have c0 : x222.cell? ⟨g1, k3 * 5, none⟩ = some (.string rn) := HYC.out _ (HO.out.take 5) 0 _ (by decide) rfl
                  have c1 : x222.cell? ⟨g1, k3 * 5 + 1, none⟩ = some (.int .i64 rk) := HYC.out _ (HO.out.take 5) 1 _ (by decide) rfl
                  have c2 : x222.cell? ⟨g1, k3 * 5 + 2, none⟩ = some (.int .i64 rt) := HYC.out _ (HO.out.take 5) 2 _ (by decide) rfl
                  have c3 : x222.cell? ⟨g1, k3 * 5 + 3, none⟩ = some (.int .i64 ra) := HYC.out _ (HO.out.take 5) 3 _ (by decide) rfl
                  have c4 : x222.cell? ⟨g1, k3 * 5 + 4, none⟩ = some (.string ro) := HYC.out _ (HO.out.take 5) 4 _ (by decide) rfl
                  have z0_0 : x222.cell? ⟨bd, 0, none⟩ = some (.int .i64 7) := HO.out.cell 0 rfl 0 rfl
                  have z0_1 : x222.cell? ⟨bd, 1, none⟩ = some (.bool true) := HO.out.cell 0 rfl 1 rfl
                  have z0_2 : x222.cell? ⟨bd, 2, none⟩ = some (.int .i64 0) := HO.out.cell 0 rfl 2 rfl
                  have z0_3 : x222.cell? ⟨bd, 3, none⟩ = some (.string ⟨#[97, 46, 98]⟩) := HO.out.cell 0 rfl 3 rfl
                  have z0_4 : x222.cell? ⟨bd, 4, none⟩ = some (.int .i64 1) := HO.out.cell 0 rfl 4 rfl
                  have z0_5 : x222.cell? ⟨bd, 5, none⟩ = some (.slice (some ⟨g1, 0, none⟩) k2 cap1) := HO.out.cell 0 rfl 5 rfl
                  have z6_0 : x222.cell? ⟨bz, 0, none⟩ = some (.string d0) := HO.out.cell 6 rfl 0 rfl
                  have z6_1 : x222.cell? ⟨bz, 1, none⟩ = some (.int .i64 d1) := HO.out.cell 6 rfl 1 rfl
                  have z6_2 : x222.cell? ⟨bz, 2, none⟩ = some (.int .i64 d2) := HO.out.cell 6 rfl 2 rfl
                  have z6_3 : x222.cell? ⟨bz, 3, none⟩ = some (.int .i64 d3) := HO.out.cell 6 rfl 3 rfl
                  have z6_4 : x222.cell? ⟨bz, 4, none⟩ = some (.string d4) := HO.out.cell 6 rfl 4 rfl
                  have hcl := HCL.out
                  have hmq := HML.out
                  go_wp2
                  clear y0 y1 y2 y3 y4 hx202 hbz k6_0_203 lk6_0_203 k6_1_204 lk6_1_204 k6_2_205 lk6_2_205 k6_3_206 lk6_3_206 k6_4_207 lk6_4_207 hx208 k6_1_209 lk6_1_209 k6_2_210 lk6_2_210 k6_3_211 lk6_3_211 k6_4_212 lk6_4_212 hx213 k6_2_214 lk6_2_214 k6_3_215 lk6_3_215 k6_4_216 lk6_4_216 hx217 k6_3_218 lk6_3_218 k6_4_219 lk6_4_219 hx220 k6_4_221 lk6_4_221 hx222 c0 c1 c2 c3 c4 z0_0 z0_1 z0_2 z0_3 z0_4 z0_5 z6_0 z6_1 z6_2 z6_3 z6_4
                  have g0_5 := cell_regrown (show x222.cell? ⟨bd, 5, none⟩ = some (.slice (some ⟨g1, 0, none⟩) k2 cap1) from HO.out.cell 0 rfl 5 rfl)
                  have g6_1 := cell_regrown (show x222.cell? ⟨bz, 1, none⟩ = some (.int .i64 d1) from HO.out.cell 6 rfl 1 rfl)
                  have g6_3 := cell_regrown (show x222.cell? ⟨bz, 3, none⟩ = some (.int .i64 d3) from HO.out.cell 6 rfl 3 rfl)
                  have g6_4 := cell_regrown (show x222.cell? ⟨bz, 4, none⟩ = some (.string d4) from HO.out.cell 6 rfl 4 rfl)
                  have f1 := cell_regrown (show x222.cell? ⟨g1, k3 * 5 + 1, none⟩ = some (.int .i64 rk) from HYC.out _ (HO.out.take 5) 1 _ (by decide) rfl)
                  have f3 := cell_regrown (show x222.cell? ⟨g1, k3 * 5 + 3, none⟩ = some (.int .i64 ra) from HYC.out _ (HO.out.take 5) 3 _ (by decide) rfl)
                  have f4 := cell_regrown (show x222.cell? ⟨g1, k3 * 5 + 4, none⟩ = some (.string ro) from HYC.out _ (HO.out.take 5) 4 _ (by decide) rfl)
                  by_cases h1 : d1 = rk
                  · subst h1
                    have h1b : (d1 == d1) = true := by simp
                    by_cases h3 : d3 = ra
                    · subst h3
                      by_cases h4 : d4.toList = ro.toList
                      · have h4b : (d4.toList == ro.toList) = true := by simp [h4]
                        have hmt : mtB ⟨rn, d1, rt, d3, ro⟩ ⟨d0, d1, d2, d3, d4⟩ = true := by simp [mtB, h4]
                        have HCT := Lib.hid (HCY.out hmt)
                        clear hmt HCY HCN h4
                        refine wp_region_B (by kernel_rfl) (by kernel_rfl) ?_
                        repeat (go_big_quiet_step (fail))
                        refine wpQuiet_nil ?_
                        intro x331 hbw
                        have hO := HO.out.stay hbw
                        clear g0_5 g6_1 g6_3 g6_4 f1 f3 f4 hbw
                        replace HO := Lib.hid (show Own w none0 x331 [blkR bd (.cells #[.int .i64 7, .bool true, .int .i64 0, .string ⟨#[97, 46, 98]⟩, .int .i64 1, .slice (some ⟨g1, 0, none⟩) k2 cap1] 26), rowR (.slice (some ⟨g1, 0, none⟩) k2 cap1) 28 5 k2 (rs.flatMap cRc), rowR (.slice a2 k2 cap2) 28 5 k2 (rs.flatMap cRc), blkR bx (.cells #[.int .i64 7, .bool true, .int .i64 0, .string ⟨#[97, 46, 98]⟩, .int .i64 1, .slice a2 k2 cap2] 26), resC c l, rowR (.slice (some ⟨g5, 0, none⟩) ml p1c) 28 5 ml (m.flatMap cRc), blkR bz (.cells #[.string d0, .int .i64 d1, .int .i64 d2, .int .i64 d3, .string d4] 28)] from hO)
                        clear hO
                        go_wp2
                        go_roundw
                        case rel => exact ⟨j + 1, by omega, by go_num, by rw [HCT.out]; go_num, HO.out.take 6⟩
                        case measure => simp [intOf]; omega
                      · have h4b : (d4.toList == ro.toList) = false := by simpa using h4
                        have hmt : mtB ⟨rn, d1, rt, d3, ro⟩ ⟨d0, d1, d2, d3, d4⟩ = false := by simp [mtB, h4]
                        have HCT := Lib.hid (HCN.out hmt)
                        clear hmt HCY HCN h4
                        refine wp_region_B (by kernel_rfl) (by kernel_rfl) ?_
                        repeat (go_big_quiet_step (fail))
                        refine wpQuiet_nil ?_
                        intro x331 hbw
                        have hO := HO.out.stay hbw
                        clear g0_5 g6_1 g6_3 g6_4 f1 f3 f4 hbw
                        replace HO := Lib.hid (show Own w none0 x331 [blkR bd (.cells #[.int .i64 7, .bool true, .int .i64 0, .string ⟨#[97, 46, 98]⟩, .int .i64 1, .slice (some ⟨g1, 0, none⟩) k2 cap1] 26), rowR (.slice (some ⟨g1, 0, none⟩) k2 cap1) 28 5 k2 (rs.flatMap cRc), rowR (.slice a2 k2 cap2) 28 5 k2 (rs.flatMap cRc), blkR bx (.cells #[.int .i64 7, .bool true, .int .i64 0, .string ⟨#[97, 46, 98]⟩, .int .i64 1, .slice a2 k2 cap2] 26), resC c l, rowR (.slice (some ⟨g5, 0, none⟩) ml p1c) 28 5 ml (m.flatMap cRc), blkR bz (.cells #[.string d0, .int .i64 d1, .int .i64 d2, .int .i64 d3, .string d4] 28)] from hO)
                        clear hO
                        go_wp2
                        go_roundw
                        case rel => exact ⟨j + 1, by omega, by go_num, by rw [HCT.out], HO.out.take 6⟩
                        case measure => simp [intOf]; omega
                    · have h3b : (d3 == ra) = false := by simpa using h3
                      have hmt : mtB ⟨rn, d1, rt, ra, ro⟩ ⟨d0, d1, d2, d3, d4⟩ = false := by simp [mtB, h3]
                      have HCT := Lib.hid (HCN.out hmt)
                      clear hmt HCY HCN h3
                      refine wp_region_B (by kernel_rfl) (by kernel_rfl) ?_
                      repeat (go_big_quiet_step (fail))
                      refine wpQuiet_nil ?_
                      intro x331 hbw
                      have hO := HO.out.stay hbw
                      clear g0_5 g6_1 g6_3 g6_4 f1 f3 f4 hbw
                      replace HO := Lib.hid (show Own w none0 x331 [blkR bd (.cells #[.int .i64 7, .bool true, .int .i64 0, .string ⟨#[97, 46, 98]⟩, .int .i64 1, .slice (some ⟨g1, 0, none⟩) k2 cap1] 26), rowR (.slice (some ⟨g1, 0, none⟩) k2 cap1) 28 5 k2 (rs.flatMap cRc), rowR (.slice a2 k2 cap2) 28 5 k2 (rs.flatMap cRc), blkR bx (.cells #[.int .i64 7, .bool true, .int .i64 0, .string ⟨#[97, 46, 98]⟩, .int .i64 1, .slice a2 k2 cap2] 26), resC c l, rowR (.slice (some ⟨g5, 0, none⟩) ml p1c) 28 5 ml (m.flatMap cRc), blkR bz (.cells #[.string d0, .int .i64 d1, .int .i64 d2, .int .i64 d3, .string d4] 28)] from hO)
                      clear hO
                      go_wp2
                      go_roundw
                      case rel => exact ⟨j + 1, by omega, by go_num, by rw [HCT.out], HO.out.take 6⟩
                      case measure => simp [intOf]; omega
                  · have h1b : (d1 == rk) = false := by simpa using h1
                    have hmt : mtB ⟨rn, rk, rt, ra, ro⟩ ⟨d0, d1, d2, d3, d4⟩ = false := by simp [mtB, h1]
                    have HCT := Lib.hid (HCN.out hmt)
                    clear hmt HCY HCN h1
                    refine wp_region_B (by kernel_rfl) (by kernel_rfl) ?_
                    repeat (go_big_quiet_step (fail))
                    refine wpQuiet_nil ?_
                    intro x331 hbw
                    have hO := HO.out.stay hbw
                    clear g0_5 g6_1 g6_3 g6_4 f1 f3 f4 hbw
                    replace HO := Lib.hid (show Own w none0 x331 [blkR bd (.cells #[.int .i64 7, .bool true, .int .i64 0, .string ⟨#[97, 46, 98]⟩, .int .i64 1, .slice (some ⟨g1, 0, none⟩) k2 cap1] 26), rowR (.slice (some ⟨g1, 0, none⟩) k2 cap1) 28 5 k2 (rs.flatMap cRc), rowR (.slice a2 k2 cap2) 28 5 k2 (rs.flatMap cRc), blkR bx (.cells #[.int .i64 7, .bool true, .int .i64 0, .string ⟨#[97, 46, 98]⟩, .int .i64 1, .slice a2 k2 cap2] 26), resC c l, rowR (.slice (some ⟨g5, 0, none⟩) ml p1c) 28 5 ml (m.flatMap cRc), blkR bz (.cells #[.string d0, .int .i64 d1, .int .i64 d2, .int .i64 d3, .string d4] 28)] from hO)
                    clear hO
                    go_wp2
                    go_roundw
                    case rel => exact ⟨j + 1, by omega, by go_num, by rw [HCT.out], HO.out.take 6⟩
                    case measure => simp [intOf]; omega
                · obtain rfl : j = ml := by omega
                  have hdj : decide ((j : Int) < (j : Int)) = false := decide_eq_false (by omega)
                  rw [show m.take j = m from List.take_of_length_le (by have := HMN.out; omega), HS1.out]
                  go_wp2
                  go_roundw
                  case rel => exact ⟨k3 + 1, by omega, by go_num, HO.out.take 5⟩
                  case measure => simp [intOf]; omega
            · obtain rfl : k3 = k2 := by omega
              have hdl : decide ((k3 : Int) < (k3 : Int)) = false := decide_eq_false (by omega)
              obtain ⟨ll, hll⟩ : ∃ y, l.length = y := ⟨_, rfl⟩
              have hle := HLL.out
              rw [hll] at hle
              have HLE := Lib.hid hll
              clear hll
              have z0_0 : wr.cell? ⟨bd, 0, none⟩ = some (.int .i64 7) := HO.out.cell 0 rfl 0 rfl
              have z0_1 : wr.cell? ⟨bd, 1, none⟩ = some (.bool true) := HO.out.cell 0 rfl 1 rfl
              have z0_2 : wr.cell? ⟨bd, 2, none⟩ = some (.int .i64 0) := HO.out.cell 0 rfl 2 rfl
              have z0_3 : wr.cell? ⟨bd, 3, none⟩ = some (.string ⟨#[97, 46, 98]⟩) := HO.out.cell 0 rfl 3 rfl
              have z0_4 : wr.cell? ⟨bd, 4, none⟩ = some (.int .i64 1) := HO.out.cell 0 rfl 4 rfl
              have z0_5 : wr.cell? ⟨bd, 5, none⟩ = some (.slice a1 k3 cap1) := HO.out.cell 0 rfl 5 rfl
              go_wp2_with fail
              clear z0_0 z0_1 z0_2 z0_3 z0_4 z0_5
              have g0 := cell_regrown (show wr.cell? ⟨bd, 5, none⟩ = some (.slice a1 k3 cap1) from HO.out.cell 0 rfl 5 rfl)
              have hdf : decide ((ll : Int) ≤ (k3 : Int)) = true := decide_eq_true (by omega)
              refine wp_region_B (by kernel_rfl) (by kernel_rfl) ?_
              repeat (go_big_quiet_step ((go_at_call 12; exact Calls.regrown_of (clen_q (HO.out.stay (below_regrown _ _ _)) 4 rfl HLE.out))))
              refine wpQuiet_nil ?_
              intro x331 hbw
              have hO := HO.out.stay hbw
              clear g0 hbw
              go_wp2
              go_ret
              exact ⟨rfl, hO.below⟩
set_option maxRecDepth 100000 in
set_option maxHeartbeats 16000000 in
theorem stores_gt (len N : Nat) (g : Nat → Rw) (v : Value) (a : Addr) (w : World) (hr : RdRw w v len g) (hg : w.cell? ⟨errG, 0, none⟩ = some (errV a)) (hN : 8 < len) (hn1 : N ≤ 8) (hn2 : 8 ≤ N) :
    Calls Tryz.prog 3 #[v] w fun e w' => e = .returned (.bool true) ∧ Below w.heap.size w w' := by
  have HG := Lib.hid hg
  obtain ⟨p, cap, rfl, hcap, hlen, hok, hcell⟩ := hr
  have HOK := Lib.hid hok
  have HC := Lib.hid hcell
  clear hok hcell hg
  have HO := Lib.hid (Own.nil w none0)
  go_enter Tryz.func3, Tryz.ntmps3
  have hsane := sane_o (w0 := w) (w := w) (a := a) (Own.nil _ _) (keep HO.out.below HG.out)
  go_wp2_with fail
  refine hsane.mono ?_
  rintro e x1 ⟨rfl, hO1, -⟩
  have hO := HO.out.stay hO1.below
  replace HO := Lib.hid (show Own w none0 x1 [] from hO)
  clear hO hO1 hsane
  obtain ⟨x2, hx2⟩ : ∃ y, x1.alloc (.cells #[.int .i64 0, .bool false, .int .i64 0, .string ⟨#[]⟩, .int .i64 0, .slice none 0 0] 26) = y := ⟨_, rfl⟩
  obtain ⟨bd, hbd⟩ : ∃ y, x1.heap.size = y := ⟨_, rfl⟩
  have hO := HO.out.alloc (.cells #[.int .i64 0, .bool false, .int .i64 0, .string ⟨#[]⟩, .int .i64 0, .slice none 0 0] 26)
  rw [hx2, hbd] at hO
  replace HO := Lib.hid (show Own w none0 x2 [blkR bd (.cells #[.int .i64 0, .bool false, .int .i64 0, .string ⟨#[]⟩, .int .i64 0, .slice none 0 0] 26)] from hO)
  clear hO
  have k0_0_3 : x2.cell? ⟨bd, 0, none⟩ = some (.int .i64 0) := HO.out.cell 0 rfl 0 rfl
  have lk0_0_3 : x2.frozen? ⟨bd, 0, none⟩ = false := HO.out.frz 0 rfl 0
  have k0_1_4 : x2.cell? ⟨bd, 1, none⟩ = some (.bool false) := HO.out.cell 0 rfl 1 rfl
  have lk0_1_4 : x2.frozen? ⟨bd, 1, none⟩ = false := HO.out.frz 0 rfl 1
  have k0_2_5 : x2.cell? ⟨bd, 2, none⟩ = some (.int .i64 0) := HO.out.cell 0 rfl 2 rfl
  have lk0_2_5 : x2.frozen? ⟨bd, 2, none⟩ = false := HO.out.frz 0 rfl 2
  have k0_3_6 : x2.cell? ⟨bd, 3, none⟩ = some (.string ⟨#[]⟩) := HO.out.cell 0 rfl 3 rfl
  have lk0_3_6 : x2.frozen? ⟨bd, 3, none⟩ = false := HO.out.frz 0 rfl 3
  have k0_4_7 : x2.cell? ⟨bd, 4, none⟩ = some (.int .i64 0) := HO.out.cell 0 rfl 4 rfl
  have lk0_4_7 : x2.frozen? ⟨bd, 4, none⟩ = false := HO.out.frz 0 rfl 4
  have k0_5_8 : x2.cell? ⟨bd, 5, none⟩ = some (.slice none 0 0) := HO.out.cell 0 rfl 5 rfl
  have lk0_5_8 : x2.frozen? ⟨bd, 5, none⟩ = false := HO.out.frz 0 rfl 5
  obtain ⟨x9, hx9⟩ : ∃ y, x2.setCell ⟨bd, 0, none⟩ (.int .i64 7) = y := ⟨_, rfl⟩
  have hO := HO.out.setCell 0 rfl 0 (.int .i64 7)
  rw [hx9] at hO
  replace HO := Lib.hid (show Own w none0 x9 [blkR bd (.cells #[.int .i64 7, .bool false, .int .i64 0, .string ⟨#[]⟩, .int .i64 0, .slice none 0 0] 26)] from hO)
  clear hO
  have k0_1_10 : x9.cell? ⟨bd, 1, none⟩ = some (.bool false) := HO.out.cell 0 rfl 1 rfl
  have lk0_1_10 : x9.frozen? ⟨bd, 1, none⟩ = false := HO.out.frz 0 rfl 1
  have k0_2_11 : x9.cell? ⟨bd, 2, none⟩ = some (.int .i64 0) := HO.out.cell 0 rfl 2 rfl
  have lk0_2_11 : x9.frozen? ⟨bd, 2, none⟩ = false := HO.out.frz 0 rfl 2
  have k0_3_12 : x9.cell? ⟨bd, 3, none⟩ = some (.string ⟨#[]⟩) := HO.out.cell 0 rfl 3 rfl
  have lk0_3_12 : x9.frozen? ⟨bd, 3, none⟩ = false := HO.out.frz 0 rfl 3
  have k0_4_13 : x9.cell? ⟨bd, 4, none⟩ = some (.int .i64 0) := HO.out.cell 0 rfl 4 rfl
  have lk0_4_13 : x9.frozen? ⟨bd, 4, none⟩ = false := HO.out.frz 0 rfl 4
  have k0_5_14 : x9.cell? ⟨bd, 5, none⟩ = some (.slice none 0 0) := HO.out.cell 0 rfl 5 rfl
  have lk0_5_14 : x9.frozen? ⟨bd, 5, none⟩ = false := HO.out.frz 0 rfl 5
  obtain ⟨x15, hx15⟩ : ∃ y, x9.setCell ⟨bd, 1, none⟩ (.bool true) = y := ⟨_, rfl⟩
  have hO := HO.out.setCell 0 rfl 1 (.bool true)
  rw [hx15] at hO
  replace HO := Lib.hid (show Own w none0 x15 [blkR bd (.cells #[.int .i64 7, .bool true, .int .i64 0, .string ⟨#[]⟩, .int .i64 0, .slice none 0 0] 26)] from hO)
  clear hO
  have k0_2_16 : x15.cell? ⟨bd, 2, none⟩ = some (.int .i64 0) := HO.out.cell 0 rfl 2 rfl
  have lk0_2_16 : x15.frozen? ⟨bd, 2, none⟩ = false := HO.out.frz 0 rfl 2
  have k0_3_17 : x15.cell? ⟨bd, 3, none⟩ = some (.string ⟨#[]⟩) := HO.out.cell 0 rfl 3 rfl
  have lk0_3_17 : x15.frozen? ⟨bd, 3, none⟩ = false := HO.out.frz 0 rfl 3
  have k0_4_18 : x15.cell? ⟨bd, 4, none⟩ = some (.int .i64 0) := HO.out.cell 0 rfl 4 rfl
  have lk0_4_18 : x15.frozen? ⟨bd, 4, none⟩ = false := HO.out.frz 0 rfl 4
  have k0_5_19 : x15.cell? ⟨bd, 5, none⟩ = some (.slice none 0 0) := HO.out.cell 0 rfl 5 rfl
  have lk0_5_19 : x15.frozen? ⟨bd, 5, none⟩ = false := HO.out.frz 0 rfl 5
  obtain ⟨x20, hx20⟩ : ∃ y, x15.setCell ⟨bd, 2, none⟩ (.int .i64 0) = y := ⟨_, rfl⟩
  have hO := HO.out.setCell 0 rfl 2 (.int .i64 0)
  rw [hx20] at hO
  replace HO := Lib.hid (show Own w none0 x20 [blkR bd (.cells #[.int .i64 7, .bool true, .int .i64 0, .string ⟨#[]⟩, .int .i64 0, .slice none 0 0] 26)] from hO)
  clear hO
  have k0_3_21 : x20.cell? ⟨bd, 3, none⟩ = some (.string ⟨#[]⟩) := HO.out.cell 0 rfl 3 rfl
  have lk0_3_21 : x20.frozen? ⟨bd, 3, none⟩ = false := HO.out.frz 0 rfl 3
  have k0_4_22 : x20.cell? ⟨bd, 4, none⟩ = some (.int .i64 0) := HO.out.cell 0 rfl 4 rfl
  have lk0_4_22 : x20.frozen? ⟨bd, 4, none⟩ = false := HO.out.frz 0 rfl 4
  have k0_5_23 : x20.cell? ⟨bd, 5, none⟩ = some (.slice none 0 0) := HO.out.cell 0 rfl 5 rfl
  have lk0_5_23 : x20.frozen? ⟨bd, 5, none⟩ = false := HO.out.frz 0 rfl 5
  obtain ⟨x24, hx24⟩ : ∃ y, x20.setCell ⟨bd, 3, none⟩ (.string ⟨#[97, 46, 98]⟩) = y := ⟨_, rfl⟩
  have hO := HO.out.setCell 0 rfl 3 (.string ⟨#[97, 46, 98]⟩)
  rw [hx24] at hO
  replace HO := Lib.hid (show Own w none0 x24 [blkR bd (.cells #[.int .i64 7, .bool true, .int .i64 0, .string ⟨#[97, 46, 98]⟩, .int .i64 0, .slice none 0 0] 26)] from hO)
  clear hO
  have k0_4_25 : x24.cell? ⟨bd, 4, none⟩ = some (.int .i64 0) := HO.out.cell 0 rfl 4 rfl
  have lk0_4_25 : x24.frozen? ⟨bd, 4, none⟩ = false := HO.out.frz 0 rfl 4
  have k0_5_26 : x24.cell? ⟨bd, 5, none⟩ = some (.slice none 0 0) := HO.out.cell 0 rfl 5 rfl
  have lk0_5_26 : x24.frozen? ⟨bd, 5, none⟩ = false := HO.out.frz 0 rfl 5
  obtain ⟨x27, hx27⟩ : ∃ y, x24.setCell ⟨bd, 4, none⟩ (.int .i64 1) = y := ⟨_, rfl⟩
  have hO := HO.out.setCell 0 rfl 4 (.int .i64 1)
  rw [hx27] at hO
  replace HO := Lib.hid (show Own w none0 x27 [blkR bd (.cells #[.int .i64 7, .bool true, .int .i64 0, .string ⟨#[97, 46, 98]⟩, .int .i64 1, .slice none 0 0] 26)] from hO)
  clear hO
  have k0_5_28 : x27.cell? ⟨bd, 5, none⟩ = some (.slice none 0 0) := HO.out.cell 0 rfl 5 rfl
  have lk0_5_28 : x27.frozen? ⟨bd, 5, none⟩ = false := HO.out.frz 0 rfl 5
  obtain ⟨x29, hx29⟩ : ∃ y, x27.setCell ⟨bd, 5, none⟩ (.slice none 0 0) = y := ⟨_, rfl⟩
  have hO := HO.out.setCell 0 rfl 5 (.slice none 0 0)
  rw [hx29] at hO
  replace HO := Lib.hid (show Own w none0 x29 [blkR bd (.cells #[.int .i64 7, .bool true, .int .i64 0, .string ⟨#[97, 46, 98]⟩, .int .i64 1, .slice none 0 0] 26)] from hO)
  clear hO
  have z0_0 : x29.cell? ⟨bd, 0, none⟩ = some (.int .i64 7) := HO.out.cell 0 rfl 0 rfl
  have z0_1 : x29.cell? ⟨bd, 1, none⟩ = some (.bool true) := HO.out.cell 0 rfl 1 rfl
  have z0_2 : x29.cell? ⟨bd, 2, none⟩ = some (.int .i64 0) := HO.out.cell 0 rfl 2 rfl
  have z0_3 : x29.cell? ⟨bd, 3, none⟩ = some (.string ⟨#[97, 46, 98]⟩) := HO.out.cell 0 rfl 3 rfl
  have z0_4 : x29.cell? ⟨bd, 4, none⟩ = some (.int .i64 1) := HO.out.cell 0 rfl 4 rfl
  have z0_5 : x29.cell? ⟨bd, 5, none⟩ = some (.slice none 0 0) := HO.out.cell 0 rfl 5 rfl
  go_wp2
  clear hx2 hbd k0_0_3 lk0_0_3 k0_1_4 lk0_1_4 k0_2_5 lk0_2_5 k0_3_6 lk0_3_6 k0_4_7 lk0_4_7 k0_5_8 lk0_5_8 hx9 k0_1_10 lk0_1_10 k0_2_11 lk0_2_11 k0_3_12 lk0_3_12 k0_4_13 lk0_4_13 k0_5_14 lk0_5_14 hx15 k0_2_16 lk0_2_16 k0_3_17 lk0_3_17 k0_4_18 lk0_4_18 k0_5_19 lk0_5_19 hx20 k0_3_21 lk0_3_21 k0_4_22 lk0_4_22 k0_5_23 lk0_5_23 hx24 k0_4_25 lk0_4_25 k0_5_26 lk0_5_26 hx27 k0_5_28 lk0_5_28 hx29 z0_0 z0_1 z0_2 z0_3 z0_4 z0_5
  have HO := Lib.hid (show Own w none0 x29 ([blkR bd (.cells #[.int .i64 7, .bool true, .int .i64 0, .string ⟨#[97, 46, 98]⟩, .int .i64 1, .slice none 0 0] 26)] ++ [rowR (.slice none 0 0) 28 5 0 ((dS g 0).flatMap cRc)]) from HO.out.rowNew 28 5)
  go_loopw [5] (fun iv wr => ∃ (k : Nat) (a : Option Addr) (cap : Nat), k ≤ N ∧ iv = .int .i64 k ∧ Own w none0 wr [blkR bd (.cells #[.int .i64 7, .bool true, .int .i64 0, .string ⟨#[97, 46, 98]⟩, .int .i64 1, .slice a k cap] 26), rowR (.slice a k cap) 28 5 k ((dS g k).flatMap cRc)]) (fun iv _ => N - (intOf iv).toNat)
  case atStart => exact ⟨0, none, 0, Nat.zero_le _, rfl, HO.out⟩
  case round =>
    obtain ⟨k, a1, cap1, hk, rfl, hO⟩ := hrel
    replace HO := Lib.hid hO
    clear hO
    by_cases hlt : k < N
    · have hd1 : decide ((k : Int) < (len : Int)) = true := decide_eq_true (by omega)
      have hd2 : decide ((k : Int) < 8) = true := decide_eq_true (by omega)
      obtain ⟨b, o, rfl, hcc⟩ := HC.out (by omega)
      have hok := HOK.out k (by omega)
      have hcc := hcc k (by omega)
      have HD := Lib.hid (show ∀ (W : World), Below w.heap.size w W → ∀ j u, j < 4 → (rwA (g k))[j]? = some u → W.cell? ⟨b, o + k * 4 + j, none⟩ = some u from fun W hb j u hj hu => keep hb ((hcc j hj).trans hu))
      have HRX := Lib.hid (fun w => rec_any (g k) hok w)
      have q4 := pk_bd (g k).tt 30 (by decide)
      rw [← (recF_A (g k)).2.2] at q4
      have HDR := Lib.hid (show dR (g k) = ⟨(recF (g k)).nm, (recF (g k)).kd, 1 + pk (recF (g k)).tt 30, (recF (g k)).ad, (recF (g k)).to⟩ from rfl)
      have HRW := Lib.hid (dS_row g k)
      clear hcc
      obtain ⟨dr, hdr⟩ : ∃ y, dR (g k) = y := ⟨_, rfl⟩
      rw [hdr] at HDR HRW
      clear hdr hok
      generalize recF (g k) = r at *
      generalize g k = x at *
      obtain ⟨xn, xk, xt, xa⟩ := x
      obtain ⟨c0, c1, c2, c3, c4⟩ := r
      simp only at q4
      obtain ⟨q5, q6⟩ := q4
      have HPK := Lib.hid (fun w => pick_b c2 30 w (by omega) (by decide))
      have q3 := pk_bd c2 30 (by decide)
      have HDR := Lib.hid (show dr = ⟨c0, c1, 1 + pk c2 30, c3, c4⟩ from HDR.out)
      generalize pk c2 30 = q at *
      obtain ⟨q1, q2⟩ := q3
      have y0 : wr.cell? ⟨b, o + k * 4, none⟩ = some (.int .i64 xn) := HD.out wr HO.out.below 0 _ (by decide) rfl
      have y1 : wr.cell? ⟨b, o + k * 4 + 1, none⟩ = some (.int .i64 xk) := HD.out wr HO.out.below 1 _ (by decide) rfl
      have y2 : wr.cell? ⟨b, o + k * 4 + 2, none⟩ = some (.int .i64 xt) := HD.out wr HO.out.below 2 _ (by decide) rfl
      have y3 : wr.cell? ⟨b, o + k * 4 + 3, none⟩ = some (.int .i64 xa) := HD.out wr HO.out.below 3 _ (by decide) rfl
      clear HD
      go_wp2_with fail
      refine (o_still HO.out (HRX.out _)).mono ?_
      rintro e x41 ⟨rfl, hO, -⟩
      replace HO := Lib.hid (show Own w none0 x41 [blkR bd (.cells #[.int .i64 7, .bool true, .int .i64 0, .string ⟨#[97, 46, 98]⟩, .int .i64 1, .slice a1 k cap1] 26), rowR (.slice a1 k cap1) 28 5 k ((dS g k).flatMap cRc)] from hO)
      clear hO
      clear y0 y1 y2 y3
      obtain ⟨x42, hx42⟩ : ∃ y, x41.alloc (.cells #[.string ⟨#[]⟩, .int .i64 0, .int .i64 0, .int .i64 0, .string ⟨#[]⟩] 28) = y := ⟨_, rfl⟩
      obtain ⟨br, hbr⟩ : ∃ y, x41.heap.size = y := ⟨_, rfl⟩
      have hO := HO.out.alloc (.cells #[.string ⟨#[]⟩, .int .i64 0, .int .i64 0, .int .i64 0, .string ⟨#[]⟩] 28)
      rw [hx42, hbr] at hO
      replace HO := Lib.hid (show Own w none0 x42 [blkR bd (.cells #[.int .i64 7, .bool true, .int .i64 0, .string ⟨#[97, 46, 98]⟩, .int .i64 1, .slice a1 k cap1] 26), rowR (.slice a1 k cap1) 28 5 k ((dS g k).flatMap cRc), blkR br (.cells #[.string ⟨#[]⟩, .int .i64 0, .int .i64 0, .int .i64 0, .string ⟨#[]⟩] 28)] from hO)
      clear hO
      have k2_0_43 : x42.cell? ⟨br, 0, none⟩ = some (.string ⟨#[]⟩) := HO.out.cell 2 rfl 0 rfl
      have lk2_0_43 : x42.frozen? ⟨br, 0, none⟩ = false := HO.out.frz 2 rfl 0
      have k2_1_44 : x42.cell? ⟨br, 1, none⟩ = some (.int .i64 0) := HO.out.cell 2 rfl 1 rfl
      have lk2_1_44 : x42.frozen? ⟨br, 1, none⟩ = false := HO.out.frz 2 rfl 1
      have k2_2_45 : x42.cell? ⟨br, 2, none⟩ = some (.int .i64 0) := HO.out.cell 2 rfl 2 rfl
      have lk2_2_45 : x42.frozen? ⟨br, 2, none⟩ = false := HO.out.frz 2 rfl 2
      have k2_3_46 : x42.cell? ⟨br, 3, none⟩ = some (.int .i64 0) := HO.out.cell 2 rfl 3 rfl
      have lk2_3_46 : x42.frozen? ⟨br, 3, none⟩ = false := HO.out.frz 2 rfl 3
      have k2_4_47 : x42.cell? ⟨br, 4, none⟩ = some (.string ⟨#[]⟩) := HO.out.cell 2 rfl 4 rfl
      have lk2_4_47 : x42.frozen? ⟨br, 4, none⟩ = false := HO.out.frz 2 rfl 4
      obtain ⟨x48, hx48⟩ : ∃ y, x42.setCell ⟨br, 0, none⟩ (.string c0) = y := ⟨_, rfl⟩
      have hO := HO.out.setCell 2 rfl 0 (.string c0)
      rw [hx48] at hO
      replace HO := Lib.hid (show Own w none0 x48 [blkR bd (.cells #[.int .i64 7, .bool true, .int .i64 0, .string ⟨#[97, 46, 98]⟩, .int .i64 1, .slice a1 k cap1] 26), rowR (.slice a1 k cap1) 28 5 k ((dS g k).flatMap cRc), blkR br (.cells #[.string c0, .int .i64 0, .int .i64 0, .int .i64 0, .string ⟨#[]⟩] 28)] from hO)
      clear hO
      have k2_1_49 : x48.cell? ⟨br, 1, none⟩ = some (.int .i64 0) := HO.out.cell 2 rfl 1 rfl
      have lk2_1_49 : x48.frozen? ⟨br, 1, none⟩ = false := HO.out.frz 2 rfl 1
      have k2_2_50 : x48.cell? ⟨br, 2, none⟩ = some (.int .i64 0) := HO.out.cell 2 rfl 2 rfl
      have lk2_2_50 : x48.frozen? ⟨br, 2, none⟩ = false := HO.out.frz 2 rfl 2
      have k2_3_51 : x48.cell? ⟨br, 3, none⟩ = some (.int .i64 0) := HO.out.cell 2 rfl 3 rfl
      have lk2_3_51 : x48.frozen? ⟨br, 3, none⟩ = false := HO.out.frz 2 rfl 3
      have k2_4_52 : x48.cell? ⟨br, 4, none⟩ = some (.string ⟨#[]⟩) := HO.out.cell 2 rfl 4 rfl
      have lk2_4_52 : x48.frozen? ⟨br, 4, none⟩ = false := HO.out.frz 2 rfl 4
      obtain ⟨x53, hx53⟩ : ∃ y, x48.setCell ⟨br, 1, none⟩ (.int .i64 c1) = y := ⟨_, rfl⟩
      have hO := HO.out.setCell 2 rfl 1 (.int .i64 c1)
      rw [hx53] at hO
      replace HO := Lib.hid (show Own w none0 x53 [blkR bd (.cells #[.int .i64 7, .bool true, .int .i64 0, .string ⟨#[97, 46, 98]⟩, .int .i64 1, .slice a1 k cap1] 26), rowR (.slice a1 k cap1) 28 5 k ((dS g k).flatMap cRc), blkR br (.cells #[.string c0, .int .i64 c1, .int .i64 0, .int .i64 0, .string ⟨#[]⟩] 28)] from hO)
      clear hO
      have k2_2_54 : x53.cell? ⟨br, 2, none⟩ = some (.int .i64 0) := HO.out.cell 2 rfl 2 rfl
      have lk2_2_54 : x53.frozen? ⟨br, 2, none⟩ = false := HO.out.frz 2 rfl 2
      have k2_3_55 : x53.cell? ⟨br, 3, none⟩ = some (.int .i64 0) := HO.out.cell 2 rfl 3 rfl
      have lk2_3_55 : x53.frozen? ⟨br, 3, none⟩ = false := HO.out.frz 2 rfl 3
      have k2_4_56 : x53.cell? ⟨br, 4, none⟩ = some (.string ⟨#[]⟩) := HO.out.cell 2 rfl 4 rfl
      have lk2_4_56 : x53.frozen? ⟨br, 4, none⟩ = false := HO.out.frz 2 rfl 4
      obtain ⟨x57, hx57⟩ : ∃ y, x53.setCell ⟨br, 2, none⟩ (.int .i64 c2) = y := ⟨_, rfl⟩
      have hO := HO.out.setCell 2 rfl 2 (.int .i64 c2)
      rw [hx57] at hO
      replace HO := Lib.hid (show Own w none0 x57 [blkR bd (.cells #[.int .i64 7, .bool true, .int .i64 0, .string ⟨#[97, 46, 98]⟩, .int .i64 1, .slice a1 k cap1] 26), rowR (.slice a1 k cap1) 28 5 k ((dS g k).flatMap cRc), blkR br (.cells #[.string c0, .int .i64 c1, .int .i64 c2, .int .i64 0, .string ⟨#[]⟩] 28)] from hO)
      clear hO
      have k2_3_58 : x57.cell? ⟨br, 3, none⟩ = some (.int .i64 0) := HO.out.cell 2 rfl 3 rfl
      have lk2_3_58 : x57.frozen? ⟨br, 3, none⟩ = false := HO.out.frz 2 rfl 3
      have k2_4_59 : x57.cell? ⟨br, 4, none⟩ = some (.string ⟨#[]⟩) := HO.out.cell 2 rfl 4 rfl
      have lk2_4_59 : x57.frozen? ⟨br, 4, none⟩ = false := HO.out.frz 2 rfl 4
      obtain ⟨x60, hx60⟩ : ∃ y, x57.setCell ⟨br, 3, none⟩ (.int .i64 c3) = y := ⟨_, rfl⟩
      have hO := HO.out.setCell 2 rfl 3 (.int .i64 c3)
      rw [hx60] at hO
      replace HO := Lib.hid (show Own w none0 x60 [blkR bd (.cells #[.int .i64 7, .bool true, .int .i64 0, .string ⟨#[97, 46, 98]⟩, .int .i64 1, .slice a1 k cap1] 26), rowR (.slice a1 k cap1) 28 5 k ((dS g k).flatMap cRc), blkR br (.cells #[.string c0, .int .i64 c1, .int .i64 c2, .int .i64 c3, .string ⟨#[]⟩] 28)] from hO)
      clear hO
      have k2_4_61 : x60.cell? ⟨br, 4, none⟩ = some (.string ⟨#[]⟩) := HO.out.cell 2 rfl 4 rfl
      have lk2_4_61 : x60.frozen? ⟨br, 4, none⟩ = false := HO.out.frz 2 rfl 4
      obtain ⟨x62, hx62⟩ : ∃ y, x60.setCell ⟨br, 4, none⟩ (.string c4) = y := ⟨_, rfl⟩
      have hO := HO.out.setCell 2 rfl 4 (.string c4)
      rw [hx62] at hO
      replace HO := Lib.hid (show Own w none0 x62 [blkR bd (.cells #[.int .i64 7, .bool true, .int .i64 0, .string ⟨#[97, 46, 98]⟩, .int .i64 1, .slice a1 k cap1] 26), rowR (.slice a1 k cap1) 28 5 k ((dS g k).flatMap cRc), blkR br (.cells #[.string c0, .int .i64 c1, .int .i64 c2, .int .i64 c3, .string c4] 28)] from hO)
      clear hO
      have z2_0 : x62.cell? ⟨br, 0, none⟩ = some (.string c0) := HO.out.cell 2 rfl 0 rfl
      have z2_1 : x62.cell? ⟨br, 1, none⟩ = some (.int .i64 c1) := HO.out.cell 2 rfl 1 rfl
      have z2_2 : x62.cell? ⟨br, 2, none⟩ = some (.int .i64 c2) := HO.out.cell 2 rfl 2 rfl
      have z2_3 : x62.cell? ⟨br, 3, none⟩ = some (.int .i64 c3) := HO.out.cell 2 rfl 3 rfl
      have z2_4 : x62.cell? ⟨br, 4, none⟩ = some (.string c4) := HO.out.cell 2 rfl 4 rfl
      go_wp2_with fail
      refine (o_still HO.out (HPK.out _)).mono ?_
      rintro e x63 ⟨rfl, hO, -⟩
      replace HO := Lib.hid (show Own w none0 x63 [blkR bd (.cells #[.int .i64 7, .bool true, .int .i64 0, .string ⟨#[97, 46, 98]⟩, .int .i64 1, .slice a1 k cap1] 26), rowR (.slice a1 k cap1) 28 5 k ((dS g k).flatMap cRc), blkR br (.cells #[.string c0, .int .i64 c1, .int .i64 c2, .int .i64 c3, .string c4] 28)] from hO)
      clear hO
      clear hx42 hbr k2_0_43 lk2_0_43 k2_1_44 lk2_1_44 k2_2_45 lk2_2_45 k2_3_46 lk2_3_46 k2_4_47 lk2_4_47 hx48 k2_1_49 lk2_1_49 k2_2_50 lk2_2_50 k2_3_51 lk2_3_51 k2_4_52 lk2_4_52 hx53 k2_2_54 lk2_2_54 k2_3_55 lk2_3_55 k2_4_56 lk2_4_56 hx57 k2_3_58 lk2_3_58 k2_4_59 lk2_4_59 hx60 k2_4_61 lk2_4_61 hx62 z2_0 z2_1 z2_2 z2_3 z2_4
      have z2_0 : x63.cell? ⟨br, 0, none⟩ = some (.string c0) := HO.out.cell 2 rfl 0 rfl
      have z2_1 : x63.cell? ⟨br, 1, none⟩ = some (.int .i64 c1) := HO.out.cell 2 rfl 1 rfl
      have z2_2 : x63.cell? ⟨br, 2, none⟩ = some (.int .i64 c2) := HO.out.cell 2 rfl 2 rfl
      have z2_3 : x63.cell? ⟨br, 3, none⟩ = some (.int .i64 c3) := HO.out.cell 2 rfl 3 rfl
      have z2_4 : x63.cell? ⟨br, 4, none⟩ = some (.string c4) := HO.out.cell 2 rfl 4 rfl
      have y2_2 : x63.frozen? ⟨br, 2, none⟩ = false := HO.out.frz 2 rfl 2
      obtain ⟨x64, hx64⟩ : ∃ y, x63.setCell ⟨br, 2, none⟩ (.int .i64 (1 + q)) = y := ⟨_, rfl⟩
      have hO := HO.out.setCell 2 rfl 2 (.int .i64 (1 + q))
      rw [hx64] at hO
      replace HO := Lib.hid (show Own w none0 x64 [blkR bd (.cells #[.int .i64 7, .bool true, .int .i64 0, .string ⟨#[97, 46, 98]⟩, .int .i64 1, .slice a1 k cap1] 26), rowR (.slice a1 k cap1) 28 5 k ((dS g k).flatMap cRc), blkR br (.cells #[.string c0, .int .i64 c1, .int .i64 (1 + q), .int .i64 c3, .string c4] 28)] from hO)
      clear hO
      have z2_0t : x64.cell? ⟨br, 0, none⟩ = some (.string c0) := HO.out.cell 2 rfl 0 rfl
      have z2_1t : x64.cell? ⟨br, 1, none⟩ = some (.int .i64 c1) := HO.out.cell 2 rfl 1 rfl
      have z2_2t : x64.cell? ⟨br, 2, none⟩ = some (.int .i64 (1 + q)) := HO.out.cell 2 rfl 2 rfl
      have z2_3t : x64.cell? ⟨br, 3, none⟩ = some (.int .i64 c3) := HO.out.cell 2 rfl 3 rfl
      have z2_4t : x64.cell? ⟨br, 4, none⟩ = some (.string c4) := HO.out.cell 2 rfl 4 rfl
      have z0_0 : x64.cell? ⟨bd, 0, none⟩ = some (.int .i64 7) := HO.out.cell 0 rfl 0 rfl
      have z0_1 : x64.cell? ⟨bd, 1, none⟩ = some (.bool true) := HO.out.cell 0 rfl 1 rfl
      have z0_2 : x64.cell? ⟨bd, 2, none⟩ = some (.int .i64 0) := HO.out.cell 0 rfl 2 rfl
      have z0_3 : x64.cell? ⟨bd, 3, none⟩ = some (.string ⟨#[97, 46, 98]⟩) := HO.out.cell 0 rfl 3 rfl
      have z0_4 : x64.cell? ⟨bd, 4, none⟩ = some (.int .i64 1) := HO.out.cell 0 rfl 4 rfl
      have z0_5 : x64.cell? ⟨bd, 5, none⟩ = some (.slice a1 k cap1) := HO.out.cell 0 rfl 5 rfl
      obtain ⟨x65, hx65⟩ : ∃ y, x64.alloc (.cells #[.string c0, .int .i64 c1, .int .i64 (1 + q), .int .i64 c3, .string c4] 28) = y := ⟨_, rfl⟩
      obtain ⟨bl, hbl⟩ : ∃ y, x64.heap.size = y := ⟨_, rfl⟩
      have hO := HO.out.alloc (.cells #[.string c0, .int .i64 c1, .int .i64 (1 + q), .int .i64 c3, .string c4] 28)
      rw [hx65, hbl] at hO
      replace HO := Lib.hid (show Own w none0 x65 [blkR bd (.cells #[.int .i64 7, .bool true, .int .i64 0, .string ⟨#[97, 46, 98]⟩, .int .i64 1, .slice a1 k cap1] 26), rowR (.slice a1 k cap1) 28 5 k ((dS g k).flatMap cRc), blkR br (.cells #[.string c0, .int .i64 c1, .int .i64 (1 + q), .int .i64 c3, .string c4] 28), blkR bl (.cells #[.string c0, .int .i64 c1, .int .i64 (1 + q), .int .i64 c3, .string c4] 28)] from hO)
      clear hO
      go_wp2_with ((at_builtin; refine (show _ = True → _ from fun h => of_eq_true h) ?_))
      refine eq_true ?_
      refine wpList_appO rfl (.tmp 42) (.tmp 44) 24 rfl Tryz.underlying24 infoRc rfl (by decide) HO.out 1 rfl rfl 3 1 1 (cRc ⟨c0, c1, 1 + q, c3, c4⟩) rfl rfl rfl (oneR _) (by unfold maxLen; omega) (by omega) ?_
      intro v' x66 hO
      clear z2_0 z2_1 z2_2 z2_3 z2_4 y2_2 hx64 z2_0t z2_1t z2_2t z2_3t z2_4t z0_0 z0_1 z0_2 z0_3 z0_4 z0_5 hx65 hbl
      simp only [List.set_cons_succ, List.set_cons_zero] at hO
      rw [← HDR.out, ← HRW.out] at hO
      obtain ⟨m, hm⟩ : ∃ y, k + 1 = y := ⟨_, rfl⟩
      have HM := Lib.hid hm
      rw [hm] at hO
      clear hm
      obtain ⟨a2, cap2, rfl⟩ := row_shape (Own.row hO 1 rfl)
      replace HO := Lib.hid (Own.take hO 2)
      clear hO
      replace HO := Lib.hid (show Own w none0 x66 [blkR bd (.cells #[.int .i64 7, .bool true, .int .i64 0, .string ⟨#[97, 46, 98]⟩, .int .i64 1, .slice a1 k cap1] 26), rowR (.slice a2 m cap2) 28 5 m ((dS g m).flatMap cRc)] from HO.out)
      have z0_5 : x66.cell? ⟨bd, 5, none⟩ = some (.slice a1 k cap1) := HO.out.cell 0 rfl 5 rfl
      have y0_5 : x66.frozen? ⟨bd, 5, none⟩ = false := HO.out.frz 0 rfl 5
      obtain ⟨x67, hx67⟩ : ∃ y, x66.setCell ⟨bd, 5, none⟩ (.slice a2 m cap2) = y := ⟨_, rfl⟩
      have hO := HO.out.setCell 0 rfl 5 (.slice a2 m cap2)
      rw [hx67] at hO
      replace HO := Lib.hid (show Own w none0 x67 [blkR bd (.cells #[.int .i64 7, .bool true, .int .i64 0, .string ⟨#[97, 46, 98]⟩, .int .i64 1, .slice a2 m cap2] 26), rowR (.slice a2 m cap2) 28 5 m ((dS g m).flatMap cRc)] from hO)
      clear hO
      go_wp2
      go_roundw
      case rel => exact ⟨m, a2, cap2, by have := HM.out; omega, by have := HM.out; subst this; go_num, HO.out⟩
      case measure => simp [intOf]; omega
    · obtain rfl : k = N := by omega
      have hd1 : decide ((k : Int) < (len : Int)) = true := decide_eq_true (by omega)
      have hd2 : decide ((k : Int) < 8) = false := decide_eq_false (by omega)
      have hN8 : k ≤ 8 := hn1
      have HEN := Lib.hid (fun (w : World) (hr : w.ownsRow 0 28 5 (.slice a1 k cap1) k ((dS g k).flatMap cRc)) => encode_ok w hr (dS_len g k) (dS_msg g k hN8))
      have HDE := Lib.hid (fun (w : World) => decode_ok (w := w) (dS_len g k) (dS_msg g k hN8))
      obtain ⟨es, hes⟩ : ∃ y, (⟨(encM ⟨7, true, 0, ⟨#[97, 46, 98]⟩, 1, dS g k⟩).toArray⟩ : ByteArray) = y := ⟨_, rfl⟩
      rw [hes] at HEN HDE
      clear hes
      have HSA := Lib.hid (stores_all g k hN8)
      have HSB := Lib.hid (dS_B g k)
      have HSL := Lib.hid (dS_len g k)
      generalize dS g k = rs at *
      have z0_0 : wr.cell? ⟨bd, 0, none⟩ = some (.int .i64 7) := HO.out.cell 0 rfl 0 rfl
      have z0_1 : wr.cell? ⟨bd, 1, none⟩ = some (.bool true) := HO.out.cell 0 rfl 1 rfl
      have z0_2 : wr.cell? ⟨bd, 2, none⟩ = some (.int .i64 0) := HO.out.cell 0 rfl 2 rfl
      have z0_3 : wr.cell? ⟨bd, 3, none⟩ = some (.string ⟨#[97, 46, 98]⟩) := HO.out.cell 0 rfl 3 rfl
      have z0_4 : wr.cell? ⟨bd, 4, none⟩ = some (.int .i64 1) := HO.out.cell 0 rfl 4 rfl
      have z0_5 : wr.cell? ⟨bd, 5, none⟩ = some (.slice a1 k cap1) := HO.out.cell 0 rfl 5 rfl
      go_wp2_with fail
      refine (o_still HO.out (HEN.out _ (HO.out.row 1 rfl))).mono ?_
      rintro e x81 ⟨rfl, hO, -⟩
      replace HO := Lib.hid (show Own w none0 x81 [blkR bd (.cells #[.int .i64 7, .bool true, .int .i64 0, .string ⟨#[97, 46, 98]⟩, .int .i64 1, .slice a1 k cap1] 26), rowR (.slice a1 k cap1) 28 5 k (rs.flatMap cRc)] from hO)
      clear hO
      clear z0_0 z0_1 z0_2 z0_3 z0_4 z0_5
      go_wp2_with fail
      refine (HDE.out _).mono ?_
      rintro e x82 ⟨v, rfl, hO1⟩
      have hO := HO.out.joinC hO1
      clear hO1
      obtain ⟨a2, cap2, rfl⟩ := row_shape (Own.row hO 2 rfl)
      replace HO := Lib.hid (show Own w none0 x82 [blkR bd (.cells #[.int .i64 7, .bool true, .int .i64 0, .string ⟨#[97, 46, 98]⟩, .int .i64 1, .slice a1 k cap1] 26), rowR (.slice a1 k cap1) 28 5 k (rs.flatMap cRc), rowR (.slice a2 k cap2) 28 5 k (rs.flatMap cRc)] from hO)
      clear hO HEN HDE
      obtain ⟨x83, hx83⟩ : ∃ y, x82.alloc (.cells #[.int .i64 0, .bool false, .int .i64 0, .string ⟨#[]⟩, .int .i64 0, .slice none 0 0] 26) = y := ⟨_, rfl⟩
      obtain ⟨bx, hbx⟩ : ∃ y, x82.heap.size = y := ⟨_, rfl⟩
      have hO := HO.out.alloc (.cells #[.int .i64 0, .bool false, .int .i64 0, .string ⟨#[]⟩, .int .i64 0, .slice none 0 0] 26)
      rw [hx83, hbx] at hO
      replace HO := Lib.hid (show Own w none0 x83 [blkR bd (.cells #[.int .i64 7, .bool true, .int .i64 0, .string ⟨#[97, 46, 98]⟩, .int .i64 1, .slice a1 k cap1] 26), rowR (.slice a1 k cap1) 28 5 k (rs.flatMap cRc), rowR (.slice a2 k cap2) 28 5 k (rs.flatMap cRc), blkR bx (.cells #[.int .i64 0, .bool false, .int .i64 0, .string ⟨#[]⟩, .int .i64 0, .slice none 0 0] 26)] from hO)
      clear hO
      have k3_0_84 : x83.cell? ⟨bx, 0, none⟩ = some (.int .i64 0) := HO.out.cell 3 rfl 0 rfl
      have lk3_0_84 : x83.frozen? ⟨bx, 0, none⟩ = false := HO.out.frz 3 rfl 0
      have k3_1_85 : x83.cell? ⟨bx, 1, none⟩ = some (.bool false) := HO.out.cell 3 rfl 1 rfl
      have lk3_1_85 : x83.frozen? ⟨bx, 1, none⟩ = false := HO.out.frz 3 rfl 1
      have k3_2_86 : x83.cell? ⟨bx, 2, none⟩ = some (.int .i64 0) := HO.out.cell 3 rfl 2 rfl
      have lk3_2_86 : x83.frozen? ⟨bx, 2, none⟩ = false := HO.out.frz 3 rfl 2
      have k3_3_87 : x83.cell? ⟨bx, 3, none⟩ = some (.string ⟨#[]⟩) := HO.out.cell 3 rfl 3 rfl
      have lk3_3_87 : x83.frozen? ⟨bx, 3, none⟩ = false := HO.out.frz 3 rfl 3
      have k3_4_88 : x83.cell? ⟨bx, 4, none⟩ = some (.int .i64 0) := HO.out.cell 3 rfl 4 rfl
      have lk3_4_88 : x83.frozen? ⟨bx, 4, none⟩ = false := HO.out.frz 3 rfl 4
      have k3_5_89 : x83.cell? ⟨bx, 5, none⟩ = some (.slice none 0 0) := HO.out.cell 3 rfl 5 rfl
      have lk3_5_89 : x83.frozen? ⟨bx, 5, none⟩ = false := HO.out.frz 3 rfl 5
      obtain ⟨x90, hx90⟩ : ∃ y, x83.setCell ⟨bx, 0, none⟩ (.int .i64 7) = y := ⟨_, rfl⟩
      have hO := HO.out.setCell 3 rfl 0 (.int .i64 7)
      rw [hx90] at hO
      replace HO := Lib.hid (show Own w none0 x90 [blkR bd (.cells #[.int .i64 7, .bool true, .int .i64 0, .string ⟨#[97, 46, 98]⟩, .int .i64 1, .slice a1 k cap1] 26), rowR (.slice a1 k cap1) 28 5 k (rs.flatMap cRc), rowR (.slice a2 k cap2) 28 5 k (rs.flatMap cRc), blkR bx (.cells #[.int .i64 7, .bool false, .int .i64 0, .string ⟨#[]⟩, .int .i64 0, .slice none 0 0] 26)] from hO)
      clear hO
      have k3_1_91 : x90.cell? ⟨bx, 1, none⟩ = some (.bool false) := HO.out.cell 3 rfl 1 rfl
      have lk3_1_91 : x90.frozen? ⟨bx, 1, none⟩ = false := HO.out.frz 3 rfl 1
      have k3_2_92 : x90.cell? ⟨bx, 2, none⟩ = some (.int .i64 0) := HO.out.cell 3 rfl 2 rfl
      have lk3_2_92 : x90.frozen? ⟨bx, 2, none⟩ = false := HO.out.frz 3 rfl 2
      have k3_3_93 : x90.cell? ⟨bx, 3, none⟩ = some (.string ⟨#[]⟩) := HO.out.cell 3 rfl 3 rfl
      have lk3_3_93 : x90.frozen? ⟨bx, 3, none⟩ = false := HO.out.frz 3 rfl 3
      have k3_4_94 : x90.cell? ⟨bx, 4, none⟩ = some (.int .i64 0) := HO.out.cell 3 rfl 4 rfl
      have lk3_4_94 : x90.frozen? ⟨bx, 4, none⟩ = false := HO.out.frz 3 rfl 4
      have k3_5_95 : x90.cell? ⟨bx, 5, none⟩ = some (.slice none 0 0) := HO.out.cell 3 rfl 5 rfl
      have lk3_5_95 : x90.frozen? ⟨bx, 5, none⟩ = false := HO.out.frz 3 rfl 5
      obtain ⟨x96, hx96⟩ : ∃ y, x90.setCell ⟨bx, 1, none⟩ (.bool true) = y := ⟨_, rfl⟩
      have hO := HO.out.setCell 3 rfl 1 (.bool true)
      rw [hx96] at hO
      replace HO := Lib.hid (show Own w none0 x96 [blkR bd (.cells #[.int .i64 7, .bool true, .int .i64 0, .string ⟨#[97, 46, 98]⟩, .int .i64 1, .slice a1 k cap1] 26), rowR (.slice a1 k cap1) 28 5 k (rs.flatMap cRc), rowR (.slice a2 k cap2) 28 5 k (rs.flatMap cRc), blkR bx (.cells #[.int .i64 7, .bool true, .int .i64 0, .string ⟨#[]⟩, .int .i64 0, .slice none 0 0] 26)] from hO)
      clear hO
      have k3_2_97 : x96.cell? ⟨bx, 2, none⟩ = some (.int .i64 0) := HO.out.cell 3 rfl 2 rfl
      have lk3_2_97 : x96.frozen? ⟨bx, 2, none⟩ = false := HO.out.frz 3 rfl 2
      have k3_3_98 : x96.cell? ⟨bx, 3, none⟩ = some (.string ⟨#[]⟩) := HO.out.cell 3 rfl 3 rfl
      have lk3_3_98 : x96.frozen? ⟨bx, 3, none⟩ = false := HO.out.frz 3 rfl 3
      have k3_4_99 : x96.cell? ⟨bx, 4, none⟩ = some (.int .i64 0) := HO.out.cell 3 rfl 4 rfl
      have lk3_4_99 : x96.frozen? ⟨bx, 4, none⟩ = false := HO.out.frz 3 rfl 4
      have k3_5_100 : x96.cell? ⟨bx, 5, none⟩ = some (.slice none 0 0) := HO.out.cell 3 rfl 5 rfl
      have lk3_5_100 : x96.frozen? ⟨bx, 5, none⟩ = false := HO.out.frz 3 rfl 5
      obtain ⟨x101, hx101⟩ : ∃ y, x96.setCell ⟨bx, 2, none⟩ (.int .i64 0) = y := ⟨_, rfl⟩
      have hO := HO.out.setCell 3 rfl 2 (.int .i64 0)
      rw [hx101] at hO
      replace HO := Lib.hid (show Own w none0 x101 [blkR bd (.cells #[.int .i64 7, .bool true, .int .i64 0, .string ⟨#[97, 46, 98]⟩, .int .i64 1, .slice a1 k cap1] 26), rowR (.slice a1 k cap1) 28 5 k (rs.flatMap cRc), rowR (.slice a2 k cap2) 28 5 k (rs.flatMap cRc), blkR bx (.cells #[.int .i64 7, .bool true, .int .i64 0, .string ⟨#[]⟩, .int .i64 0, .slice none 0 0] 26)] from hO)
      clear hO
      have k3_3_102 : x101.cell? ⟨bx, 3, none⟩ = some (.string ⟨#[]⟩) := HO.out.cell 3 rfl 3 rfl
      have lk3_3_102 : x101.frozen? ⟨bx, 3, none⟩ = false := HO.out.frz 3 rfl 3
      have k3_4_103 : x101.cell? ⟨bx, 4, none⟩ = some (.int .i64 0) := HO.out.cell 3 rfl 4 rfl
      have lk3_4_103 : x101.frozen? ⟨bx, 4, none⟩ = false := HO.out.frz 3 rfl 4
      have k3_5_104 : x101.cell? ⟨bx, 5, none⟩ = some (.slice none 0 0) := HO.out.cell 3 rfl 5 rfl
      have lk3_5_104 : x101.frozen? ⟨bx, 5, none⟩ = false := HO.out.frz 3 rfl 5
      obtain ⟨x105, hx105⟩ : ∃ y, x101.setCell ⟨bx, 3, none⟩ (.string ⟨#[97, 46, 98]⟩) = y := ⟨_, rfl⟩
      have hO := HO.out.setCell 3 rfl 3 (.string ⟨#[97, 46, 98]⟩)
      rw [hx105] at hO
      replace HO := Lib.hid (show Own w none0 x105 [blkR bd (.cells #[.int .i64 7, .bool true, .int .i64 0, .string ⟨#[97, 46, 98]⟩, .int .i64 1, .slice a1 k cap1] 26), rowR (.slice a1 k cap1) 28 5 k (rs.flatMap cRc), rowR (.slice a2 k cap2) 28 5 k (rs.flatMap cRc), blkR bx (.cells #[.int .i64 7, .bool true, .int .i64 0, .string ⟨#[97, 46, 98]⟩, .int .i64 0, .slice none 0 0] 26)] from hO)
      clear hO
      have k3_4_106 : x105.cell? ⟨bx, 4, none⟩ = some (.int .i64 0) := HO.out.cell 3 rfl 4 rfl
      have lk3_4_106 : x105.frozen? ⟨bx, 4, none⟩ = false := HO.out.frz 3 rfl 4
      have k3_5_107 : x105.cell? ⟨bx, 5, none⟩ = some (.slice none 0 0) := HO.out.cell 3 rfl 5 rfl
      have lk3_5_107 : x105.frozen? ⟨bx, 5, none⟩ = false := HO.out.frz 3 rfl 5
      obtain ⟨x108, hx108⟩ : ∃ y, x105.setCell ⟨bx, 4, none⟩ (.int .i64 1) = y := ⟨_, rfl⟩
      have hO := HO.out.setCell 3 rfl 4 (.int .i64 1)
      rw [hx108] at hO
      replace HO := Lib.hid (show Own w none0 x108 [blkR bd (.cells #[.int .i64 7, .bool true, .int .i64 0, .string ⟨#[97, 46, 98]⟩, .int .i64 1, .slice a1 k cap1] 26), rowR (.slice a1 k cap1) 28 5 k (rs.flatMap cRc), rowR (.slice a2 k cap2) 28 5 k (rs.flatMap cRc), blkR bx (.cells #[.int .i64 7, .bool true, .int .i64 0, .string ⟨#[97, 46, 98]⟩, .int .i64 1, .slice none 0 0] 26)] from hO)
      clear hO
      have k3_5_109 : x108.cell? ⟨bx, 5, none⟩ = some (.slice none 0 0) := HO.out.cell 3 rfl 5 rfl
      have lk3_5_109 : x108.frozen? ⟨bx, 5, none⟩ = false := HO.out.frz 3 rfl 5
      obtain ⟨x110, hx110⟩ : ∃ y, x108.setCell ⟨bx, 5, none⟩ (.slice a2 k cap2) = y := ⟨_, rfl⟩
      have hO := HO.out.setCell 3 rfl 5 (.slice a2 k cap2)
      rw [hx110] at hO
      replace HO := Lib.hid (show Own w none0 x110 [blkR bd (.cells #[.int .i64 7, .bool true, .int .i64 0, .string ⟨#[97, 46, 98]⟩, .int .i64 1, .slice a1 k cap1] 26), rowR (.slice a1 k cap1) 28 5 k (rs.flatMap cRc), rowR (.slice a2 k cap2) 28 5 k (rs.flatMap cRc), blkR bx (.cells #[.int .i64 7, .bool true, .int .i64 0, .string ⟨#[97, 46, 98]⟩, .int .i64 1, .slice a2 k cap2] 26)] from hO)
      clear hO
      have z3_0 : x110.cell? ⟨bx, 0, none⟩ = some (.int .i64 7) := HO.out.cell 3 rfl 0 rfl
      have z3_1 : x110.cell? ⟨bx, 1, none⟩ = some (.bool true) := HO.out.cell 3 rfl 1 rfl
      have z3_2 : x110.cell? ⟨bx, 2, none⟩ = some (.int .i64 0) := HO.out.cell 3 rfl 2 rfl
      have z3_3 : x110.cell? ⟨bx, 3, none⟩ = some (.string ⟨#[97, 46, 98]⟩) := HO.out.cell 3 rfl 3 rfl
      have z3_4 : x110.cell? ⟨bx, 4, none⟩ = some (.int .i64 1) := HO.out.cell 3 rfl 4 rfl
      have z3_5 : x110.cell? ⟨bx, 5, none⟩ = some (.slice a2 k cap2) := HO.out.cell 3 rfl 5 rfl
      go_wp2_with fail
      refine (cnew_o HO.out).mono ?_
      rintro e x111 ⟨c, rfl, hO, -⟩
      replace HO := Lib.hid (show Own w none0 x111 [blkR bd (.cells #[.int .i64 7, .bool true, .int .i64 0, .string ⟨#[97, 46, 98]⟩, .int .i64 1, .slice a1 k cap1] 26), rowR (.slice a1 k cap1) 28 5 k (rs.flatMap cRc), rowR (.slice a2 k cap2) 28 5 k (rs.flatMap cRc), blkR bx (.cells #[.int .i64 7, .bool true, .int .i64 0, .string ⟨#[97, 46, 98]⟩, .int .i64 1, .slice a2 k cap2] 26), resC c []] from hO)
      clear hO
      clear hx83 hbx k3_0_84 lk3_0_84 k3_1_85 lk3_1_85 k3_2_86 lk3_2_86 k3_3_87 lk3_3_87 k3_4_88 lk3_4_88 k3_5_89 lk3_5_89 hx90 k3_1_91 lk3_1_91 k3_2_92 lk3_2_92 k3_3_93 lk3_3_93 k3_4_94 lk3_4_94 k3_5_95 lk3_5_95 hx96 k3_2_97 lk3_2_97 k3_3_98 lk3_3_98 k3_4_99 lk3_4_99 k3_5_100 lk3_5_100 hx101 k3_3_102 lk3_3_102 k3_4_103 lk3_4_103 k3_5_104 lk3_5_104 hx105 k3_4_106 lk3_4_106 k3_5_107 lk3_5_107 hx108 k3_5_109 lk3_5_109 hx110 z3_0 z3_1 z3_2 z3_3 z3_4 z3_5
      have z3_0 : x111.cell? ⟨bx, 0, none⟩ = some (.int .i64 7) := HO.out.cell 3 rfl 0 rfl
      have z3_1 : x111.cell? ⟨bx, 1, none⟩ = some (.bool true) := HO.out.cell 3 rfl 1 rfl
      have z3_2 : x111.cell? ⟨bx, 2, none⟩ = some (.int .i64 0) := HO.out.cell 3 rfl 2 rfl
      have z3_3 : x111.cell? ⟨bx, 3, none⟩ = some (.string ⟨#[97, 46, 98]⟩) := HO.out.cell 3 rfl 3 rfl
      have z3_4 : x111.cell? ⟨bx, 4, none⟩ = some (.int .i64 1) := HO.out.cell 3 rfl 4 rfl
      have z3_5 : x111.cell? ⟨bx, 5, none⟩ = some (.slice a2 k cap2) := HO.out.cell 3 rfl 5 rfl
      go_wp2
      clear z3_0 z3_1 z3_2 z3_3 z3_4 z3_5
      have HO := Lib.hid (show Own w none0 x111 [blkR bd (.cells #[.int .i64 7, .bool true, .int .i64 0, .string ⟨#[97, 46, 98]⟩, .int .i64 1, .slice a1 k cap1] 26), rowR (.slice a1 k cap1) 28 5 k (rs.flatMap cRc), rowR (.slice a2 k cap2) 28 5 k (rs.flatMap cRc), blkR bx (.cells #[.int .i64 7, .bool true, .int .i64 0, .string ⟨#[97, 46, 98]⟩, .int .i64 1, .slice a2 k cap2] 26), resC c (ptS (rs.take 0))] from HO.out)
      go_loopw [12] (fun iv wr => ∃ k2 : Nat, k2 ≤ k ∧ iv = .int .i64 k2 ∧ Own w none0 wr [blkR bd (.cells #[.int .i64 7, .bool true, .int .i64 0, .string ⟨#[97, 46, 98]⟩, .int .i64 1, .slice a1 k cap1] 26), rowR (.slice a1 k cap1) 28 5 k (rs.flatMap cRc), rowR (.slice a2 k cap2) 28 5 k (rs.flatMap cRc), blkR bx (.cells #[.int .i64 7, .bool true, .int .i64 0, .string ⟨#[97, 46, 98]⟩, .int .i64 1, .slice a2 k cap2] 26), resC c (ptS (rs.take k2))]) (fun iv _ => k - (intOf iv).toNat)
      case atStart => exact ⟨0, Nat.zero_le _, rfl, HO.out⟩
      case round =>
        obtain ⟨k2, hk2, rfl, hO⟩ := hrel
        replace HO := Lib.hid hO
        clear hO
        by_cases hlt2 : k2 < k
        · have hdl : decide ((k2 : Int) < (k : Int)) = true := decide_eq_true (by omega)
          have hkl : k2 < rs.length := by have := HSL.out; omega
          obtain ⟨g2, rfl⟩ := row_some (HO.out.row 2 rfl) (by omega)
          have yc : ∀ q u, q < 5 → (cRc rs[k2])[q]? = some u → wr.cell? ⟨g2, k2 * 5 + q, none⟩ = some u := fun q u hq hu => (row_cells (HO.out.row 2 rfl)).1 _ _ (by rw [flat_getR cRc 5 (fun _ => rfl) rs k2 hkl q hq]; exact hu)
          have hsb := HSB.out rs[k2] (List.getElem_mem hkl)
          have HPT := Lib.hid (ptS_take rs k2 hkl).symm
          have HIV := Lib.hid (ptS_inv (rs.take k2)).1.len
          obtain ⟨S1, hS1⟩ : ∃ y, ptS (rs.take (k2 + 1)) = y := ⟨_, rfl⟩
          rw [hS1] at HPT
          have HS1 := Lib.hid hS1
          clear hS1
          generalize ptS (rs.take k2) = S0 at *
          generalize rs[k2] = x at *
          obtain ⟨rn, rk, rt, ra, ro⟩ := x
          obtain ⟨hb1, hb2, hb3⟩ := hsb
          have HB := Lib.hid hb1
          have HNX := Lib.hid (show rn.size ≤ maxLen by have := vname_sz hb3.nm; unfold maxLen; simp only at this; omega)
          have HNT := Lib.hid (show ro.size ≤ maxLen by
            rcases hb3.al with ⟨_, _, h⟩ | ⟨_, h, _⟩
            · rw [show ro = ⟨#[]⟩ from toList_nil h]; decide
            · have := vname_sz h; unfold maxLen; simp only at this; omega)
          clear hb1 hb2 hb3 hkl
          have y0 : wr.cell? ⟨g2, k2 * 5, none⟩ = some (.string rn) := yc 0 _ (by decide) rfl
          have y1 : wr.cell? ⟨g2, k2 * 5 + 1, none⟩ = some (.int .i64 rk) := yc 1 _ (by decide) rfl
          have y2 : wr.cell? ⟨g2, k2 * 5 + 2, none⟩ = some (.int .i64 rt) := yc 2 _ (by decide) rfl
          have y3 : wr.cell? ⟨g2, k2 * 5 + 3, none⟩ = some (.int .i64 ra) := yc 3 _ (by decide) rfl
          have y4 : wr.cell? ⟨g2, k2 * 5 + 4, none⟩ = some (.string ro) := yc 4 _ (by decide) rfl
          clear yc
          have z3_0 : wr.cell? ⟨bx, 0, none⟩ = some (.int .i64 7) := HO.out.cell 3 rfl 0 rfl
          have z3_1 : wr.cell? ⟨bx, 1, none⟩ = some (.bool true) := HO.out.cell 3 rfl 1 rfl
          have z3_2 : wr.cell? ⟨bx, 2, none⟩ = some (.int .i64 0) := HO.out.cell 3 rfl 2 rfl
          have z3_3 : wr.cell? ⟨bx, 3, none⟩ = some (.string ⟨#[97, 46, 98]⟩) := HO.out.cell 3 rfl 3 rfl
          have z3_4 : wr.cell? ⟨bx, 4, none⟩ = some (.int .i64 1) := HO.out.cell 3 rfl 4 rfl
          have z3_5 : wr.cell? ⟨bx, 5, none⟩ = some (.slice (some ⟨g2, 0, none⟩) k cap2) := HO.out.cell 3 rfl 5 rfl
          go_wp2_with fail
          refine (put_r 100 ⟨rn, rk, rt, ra, ro⟩ HO.out 4 rfl (keep HO.out.below HG.out) HNX.out HNT.out HIV.out HPT.out (putE_ok HB.out)).mono ?_
          rintro e x141 ⟨rfl, hO, -⟩
          replace HO := Lib.hid (show Own w none0 x141 [blkR bd (.cells #[.int .i64 7, .bool true, .int .i64 0, .string ⟨#[97, 46, 98]⟩, .int .i64 1, .slice a1 k cap1] 26), rowR (.slice a1 k cap1) 28 5 k (rs.flatMap cRc), rowR (.slice (some ⟨g2, 0, none⟩) k cap2) 28 5 k (rs.flatMap cRc), blkR bx (.cells #[.int .i64 7, .bool true, .int .i64 0, .string ⟨#[97, 46, 98]⟩, .int .i64 1, .slice (some ⟨g2, 0, none⟩) k cap2] 26), resC c S1] from hO)
          clear hO
          clear y0 y1 y2 y3 y4 z3_0 z3_1 z3_2 z3_3 z3_4 z3_5
          rw [← HS1.out] at HO
          go_wp2
          go_roundw
          case rel => exact ⟨k2 + 1, by omega, by go_num, HO.out⟩
          case measure => simp [intOf]; omega
        · obtain rfl : k2 = k := by omega
          have hdl : decide ((k2 : Int) < (k2 : Int)) = false := decide_eq_false (by omega)
          rw [show rs.take k2 = rs from List.take_of_length_le (by have := HSL.out; omega)] at HO
          have HLI := Lib.hid (ptS_inv rs).1
          have HLL := Lib.hid (show (ptS rs).length ≤ k2 by have := (ptS_inv rs).2; have := HSL.out; omega)
          generalize ptS rs = l at *
          have z0_0 : wr.cell? ⟨bd, 0, none⟩ = some (.int .i64 7) := HO.out.cell 0 rfl 0 rfl
          have z0_1 : wr.cell? ⟨bd, 1, none⟩ = some (.bool true) := HO.out.cell 0 rfl 1 rfl
          have z0_2 : wr.cell? ⟨bd, 2, none⟩ = some (.int .i64 0) := HO.out.cell 0 rfl 2 rfl
          have z0_3 : wr.cell? ⟨bd, 3, none⟩ = some (.string ⟨#[97, 46, 98]⟩) := HO.out.cell 0 rfl 3 rfl
          have z0_4 : wr.cell? ⟨bd, 4, none⟩ = some (.int .i64 1) := HO.out.cell 0 rfl 4 rfl
          have z0_5 : wr.cell? ⟨bd, 5, none⟩ = some (.slice a1 k2 cap1) := HO.out.cell 0 rfl 5 rfl
          have z3_0 : wr.cell? ⟨bx, 0, none⟩ = some (.int .i64 7) := HO.out.cell 3 rfl 0 rfl
          have z3_1 : wr.cell? ⟨bx, 1, none⟩ = some (.bool true) := HO.out.cell 3 rfl 1 rfl
          have z3_2 : wr.cell? ⟨bx, 2, none⟩ = some (.int .i64 0) := HO.out.cell 3 rfl 2 rfl
          have z3_3 : wr.cell? ⟨bx, 3, none⟩ = some (.string ⟨#[97, 46, 98]⟩) := HO.out.cell 3 rfl 3 rfl
          have z3_4 : wr.cell? ⟨bx, 4, none⟩ = some (.int .i64 1) := HO.out.cell 3 rfl 4 rfl
          have z3_5 : wr.cell? ⟨bx, 5, none⟩ = some (.slice a2 k2 cap2) := HO.out.cell 3 rfl 5 rfl
          go_wp2
          clear z0_0 z0_1 z0_2 z0_3 z0_4 z0_5 z3_0 z3_1 z3_2 z3_3 z3_4 z3_5
          have HO := Lib.hid (show Own w none0 wr [blkR bd (.cells #[.int .i64 7, .bool true, .int .i64 0, .string ⟨#[97, 46, 98]⟩, .int .i64 1, .slice a1 k2 cap1] 26), rowR (.slice a1 k2 cap1) 28 5 k2 (rs.flatMap cRc), rowR (.slice a2 k2 cap2) 28 5 k2 (rs.flatMap cRc), blkR bx (.cells #[.int .i64 7, .bool true, .int .i64 0, .string ⟨#[97, 46, 98]⟩, .int .i64 1, .slice a2 k2 cap2] 26), resC c l] from HO.out)
          go_loopw [13] (fun iv wr => ∃ k3 : Nat, k3 ≤ k2 ∧ iv = .int .i64 k3 ∧ Own w none0 wr [blkR bd (.cells #[.int .i64 7, .bool true, .int .i64 0, .string ⟨#[97, 46, 98]⟩, .int .i64 1, .slice a1 k2 cap1] 26), rowR (.slice a1 k2 cap1) 28 5 k2 (rs.flatMap cRc), rowR (.slice a2 k2 cap2) 28 5 k2 (rs.flatMap cRc), blkR bx (.cells #[.int .i64 7, .bool true, .int .i64 0, .string ⟨#[97, 46, 98]⟩, .int .i64 1, .slice a2 k2 cap2] 26), resC c l]) (fun iv _ => k2 - (intOf iv).toNat)
          case atStart => exact ⟨0, Nat.zero_le _, rfl, HO.out⟩
          case round =>
            obtain ⟨k3, hk3, rfl, hO⟩ := hrel
            replace HO := Lib.hid hO
            clear hO
            by_cases hlt3 : k3 < k2
            · have hdl : decide ((k3 : Int) < (k2 : Int)) = true := decide_eq_true (by omega)
              have hkl : k3 < rs.length := by have := HSL.out; omega
              obtain ⟨g1, rfl⟩ := row_some (HO.out.row 1 rfl) (by omega)
              have HYC := Lib.hid (show ∀ (W : World), Own w none0 W [blkR bd (.cells #[.int .i64 7, .bool true, .int .i64 0, .string ⟨#[97, 46, 98]⟩, .int .i64 1, .slice (some ⟨g1, 0, none⟩) k2 cap1] 26), rowR (.slice (some ⟨g1, 0, none⟩) k2 cap1) 28 5 k2 (rs.flatMap cRc), rowR (.slice a2 k2 cap2) 28 5 k2 (rs.flatMap cRc), blkR bx (.cells #[.int .i64 7, .bool true, .int .i64 0, .string ⟨#[97, 46, 98]⟩, .int .i64 1, .slice a2 k2 cap2] 26), resC c l] → ∀ q u, q < 5 → (cRc rs[k3])[q]? = some u → W.cell? ⟨g1, k3 * 5 + q, none⟩ = some u from fun W hW q u hq hu => (row_cells (hW.row 1 rfl)).1 _ _ (by rw [flat_getR cRc 5 (fun _ => rfl) rs k3 hkl q hq]; exact hu))
              have hsa := HSA.out k3 hkl
              generalize rs[k3] = x at *
              obtain ⟨rn, rk, rt, ra, ro⟩ := x
              simp only at hsa
              obtain ⟨m, hm⟩ : ∃ y, lookD 100 rn l = y := ⟨_, rfl⟩
              obtain ⟨kn, hkn⟩ : ∃ y, knwD 100 rn l = y := ⟨_, rfl⟩
              rw [hm, hkn] at hsa
              have HM := Lib.hid hm
              have HK := Lib.hid hkn
              have HML := Lib.hid (show m.length ≤ 32 by rw [← hm, lookD_len]; exact Nat.le_trans (recs_len_le _ _ _) HLI.out.len)
              obtain ⟨hs1, rfl⟩ := hsa
              have HS1 := Lib.hid hs1
              clear hm hkn hs1 hkl
              have y0 : wr.cell? ⟨g1, k3 * 5, none⟩ = some (.string rn) := HYC.out wr HO.out 0 _ (by decide) rfl
              have z0_0 : wr.cell? ⟨bd, 0, none⟩ = some (.int .i64 7) := HO.out.cell 0 rfl 0 rfl
              have z0_1 : wr.cell? ⟨bd, 1, none⟩ = some (.bool true) := HO.out.cell 0 rfl 1 rfl
              have z0_2 : wr.cell? ⟨bd, 2, none⟩ = some (.int .i64 0) := HO.out.cell 0 rfl 2 rfl
              have z0_3 : wr.cell? ⟨bd, 3, none⟩ = some (.string ⟨#[97, 46, 98]⟩) := HO.out.cell 0 rfl 3 rfl
              have z0_4 : wr.cell? ⟨bd, 4, none⟩ = some (.int .i64 1) := HO.out.cell 0 rfl 4 rfl
              have z0_5 : wr.cell? ⟨bd, 5, none⟩ = some (.slice (some ⟨g1, 0, none⟩) k2 cap1) := HO.out.cell 0 rfl 5 rfl
              go_wp2_with fail
              refine (look_d (m := m) (k := true) (100) rn HO.out 4 rfl (HLI.out.len) (HLI.out.ap) HM.out HK.out).mono ?_
              rintro e x201 ⟨p1, p1c, rfl, hO, -⟩
              replace HO := Lib.hid (show Own w none0 x201 [blkR bd (.cells #[.int .i64 7, .bool true, .int .i64 0, .string ⟨#[97, 46, 98]⟩, .int .i64 1, .slice (some ⟨g1, 0, none⟩) k2 cap1] 26), rowR (.slice (some ⟨g1, 0, none⟩) k2 cap1) 28 5 k2 (rs.flatMap cRc), rowR (.slice a2 k2 cap2) 28 5 k2 (rs.flatMap cRc), blkR bx (.cells #[.int .i64 7, .bool true, .int .i64 0, .string ⟨#[97, 46, 98]⟩, .int .i64 1, .slice a2 k2 cap2] 26), resC c l, rowR (.slice p1 m.length p1c) 28 5 m.length (m.flatMap cRc)] from hO)
              clear hO
              clear y0 z0_0 z0_1 z0_2 z0_3 z0_4 z0_5
              clear HM HK
              obtain ⟨ml, hml⟩ : ∃ y, m.length = y := ⟨_, rfl⟩
              have HMN := Lib.hid hml
              rw [hml] at HO HML ⊢
              clear hml
              go_wp2
              go_loopw [16, 17] (fun nv iv wr => ∃ j : Nat, j ≤ ml ∧ iv = .int .i64 j ∧ nv = .int .i64 (((m.take j).countP (mtB ⟨rn, rk, rt, ra, ro⟩) : Nat) : Int) ∧ Own w none0 wr [blkR bd (.cells #[.int .i64 7, .bool true, .int .i64 0, .string ⟨#[97, 46, 98]⟩, .int .i64 1, .slice (some ⟨g1, 0, none⟩) k2 cap1] 26), rowR (.slice (some ⟨g1, 0, none⟩) k2 cap1) 28 5 k2 (rs.flatMap cRc), rowR (.slice a2 k2 cap2) 28 5 k2 (rs.flatMap cRc), blkR bx (.cells #[.int .i64 7, .bool true, .int .i64 0, .string ⟨#[97, 46, 98]⟩, .int .i64 1, .slice a2 k2 cap2] 26), resC c l, rowR (.slice p1 ml p1c) 28 5 ml (m.flatMap cRc)]) (fun _ iv _ => ml - (intOf iv).toNat)
              case atStart => exact ⟨0, Nat.zero_le _, rfl, rfl, HO.out⟩
              case round =>
                obtain ⟨j, hj, rfl, rfl, hO⟩ := hrel
                replace HO := Lib.hid hO
                clear hO
                by_cases hlt4 : j < ml
                · have hkm : j < m.length := by have := HMN.out; omega
                  have hdj : decide ((j : Int) < (ml : Int)) = true := decide_eq_true (by omega)
                  have hrw := HO.out.row 5 rfl
                  obtain ⟨g5, rfl⟩ := row_some hrw (by omega)
                  have yc : ∀ q s, q < 5 → (cRc m[j])[q]? = some s → wr.cell? ⟨g5, j * 5 + q, none⟩ = some s := fun q s hq hs => (row_cells hrw).1 _ _ (by rw [flat_getR cRc 5 (fun _ => rfl) m j hkm q hq]; exact hs)
                  have HCY := Lib.hid (fun h : mtB ⟨rn, rk, rt, ra, ro⟩ m[j] = true => count_yes hkm h)
                  have HCN := Lib.hid (fun h : mtB ⟨rn, rk, rt, ra, ro⟩ m[j] = false => count_no hkm h)
                  clear hrw
                  generalize m[j] = y at *
                  obtain ⟨d0, d1, d2, d3, d4⟩ := y
                  have y0 : wr.cell? ⟨g5, j * 5, none⟩ = some (.string d0) := yc 0 _ (by decide) rfl
                  have y1 : wr.cell? ⟨g5, j * 5 + 1, none⟩ = some (.int .i64 d1) := yc 1 _ (by decide) rfl
                  have y2 : wr.cell? ⟨g5, j * 5 + 2, none⟩ = some (.int .i64 d2) := yc 2 _ (by decide) rfl
                  have y3 : wr.cell? ⟨g5, j * 5 + 3, none⟩ = some (.int .i64 d3) := yc 3 _ (by decide) rfl
                  have y4 : wr.cell? ⟨g5, j * 5 + 4, none⟩ = some (.string d4) := yc 4 _ (by decide) rfl
                  clear yc
                  clear hkm
                  generalize hcp : (m.take j).countP (mtB ⟨rn, rk, rt, ra, ro⟩) = cp at *
                  have HCL := Lib.hid (show cp ≤ j by rw [← hcp]; exact Nat.le_trans (List.countP_le_length) (List.length_take_le _ _))
                  clear hcp
                  obtain ⟨x202, hx202⟩ : ∃ y, wr.alloc (.cells #[.string ⟨#[]⟩, .int .i64 0, .int .i64 0, .int .i64 0, .string ⟨#[]⟩] 28) = y := ⟨_, rfl⟩
                  obtain ⟨bz, hbz⟩ : ∃ y, wr.heap.size = y := ⟨_, rfl⟩
                  have hO := HO.out.alloc (.cells #[.string ⟨#[]⟩, .int .i64 0, .int .i64 0, .int .i64 0, .string ⟨#[]⟩] 28)
                  rw [hx202, hbz] at hO
                  replace HO := Lib.hid (show Own w none0 x202 [blkR bd (.cells #[.int .i64 7, .bool true, .int .i64 0, .string ⟨#[97, 46, 98]⟩, .int .i64 1, .slice (some ⟨g1, 0, none⟩) k2 cap1] 26), rowR (.slice (some ⟨g1, 0, none⟩) k2 cap1) 28 5 k2 (rs.flatMap cRc), rowR (.slice a2 k2 cap2) 28 5 k2 (rs.flatMap cRc), blkR bx (.cells #[.int .i64 7, .bool true, .int .i64 0, .string ⟨#[97, 46, 98]⟩, .int .i64 1, .slice a2 k2 cap2] 26), resC c l, rowR (.slice (some ⟨g5, 0, none⟩) ml p1c) 28 5 ml (m.flatMap cRc), blkR bz (.cells #[.string ⟨#[]⟩, .int .i64 0, .int .i64 0, .int .i64 0, .string ⟨#[]⟩] 28)] from hO)
                  clear hO
                  have k6_0_203 : x202.cell? ⟨bz, 0, none⟩ = some (.string ⟨#[]⟩) := HO.out.cell 6 rfl 0 rfl
                  have lk6_0_203 : x202.frozen? ⟨bz, 0, none⟩ = false := HO.out.frz 6 rfl 0
                  have k6_1_204 : x202.cell? ⟨bz, 1, none⟩ = some (.int .i64 0) := HO.out.cell 6 rfl 1 rfl
                  have lk6_1_204 : x202.frozen? ⟨bz, 1, none⟩ = false := HO.out.frz 6 rfl 1
                  have k6_2_205 : x202.cell? ⟨bz, 2, none⟩ = some (.int .i64 0) := HO.out.cell 6 rfl 2 rfl
                  have lk6_2_205 : x202.frozen? ⟨bz, 2, none⟩ = false := HO.out.frz 6 rfl 2
                  have k6_3_206 : x202.cell? ⟨bz, 3, none⟩ = some (.int .i64 0) := HO.out.cell 6 rfl 3 rfl
                  have lk6_3_206 : x202.frozen? ⟨bz, 3, none⟩ = false := HO.out.frz 6 rfl 3
                  have k6_4_207 : x202.cell? ⟨bz, 4, none⟩ = some (.string ⟨#[]⟩) := HO.out.cell 6 rfl 4 rfl
                  have lk6_4_207 : x202.frozen? ⟨bz, 4, none⟩ = false := HO.out.frz 6 rfl 4
                  obtain ⟨x208, hx208⟩ : ∃ y, x202.setCell ⟨bz, 0, none⟩ (.string d0) = y := ⟨_, rfl⟩
                  have hO := HO.out.setCell 6 rfl 0 (.string d0)
                  rw [hx208] at hO
                  replace HO := Lib.hid (show Own w none0 x208 [blkR bd (.cells #[.int .i64 7, .bool true, .int .i64 0, .string ⟨#[97, 46, 98]⟩, .int .i64 1, .slice (some ⟨g1, 0, none⟩) k2 cap1] 26), rowR (.slice (some ⟨g1, 0, none⟩) k2 cap1) 28 5 k2 (rs.flatMap cRc), rowR (.slice a2 k2 cap2) 28 5 k2 (rs.flatMap cRc), blkR bx (.cells #[.int .i64 7, .bool true, .int .i64 0, .string ⟨#[97, 46, 98]⟩, .int .i64 1, .slice a2 k2 cap2] 26), resC c l, rowR (.slice (some ⟨g5, 0, none⟩) ml p1c) 28 5 ml (m.flatMap cRc), blkR bz (.cells #[.string d0, .int .i64 0, .int .i64 0, .int .i64 0, .string ⟨#[]⟩] 28)] from hO)
                  clear hO
                  have k6_1_209 : x208.cell? ⟨bz, 1, none⟩ = some (.int .i64 0) := HO.out.cell 6 rfl 1 rfl
                  have lk6_1_209 : x208.frozen? ⟨bz, 1, none⟩ = false := HO.out.frz 6 rfl 1
                  have k6_2_210 : x208.cell? ⟨bz, 2, none⟩ = some (.int .i64 0) := HO.out.cell 6 rfl 2 rfl
                  have lk6_2_210 : x208.frozen? ⟨bz, 2, none⟩ = false := HO.out.frz 6 rfl 2
                  have k6_3_211 : x208.cell? ⟨bz, 3, none⟩ = some (.int .i64 0) := HO.out.cell 6 rfl 3 rfl
                  have lk6_3_211 : x208.frozen? ⟨bz, 3, none⟩ = false := HO.out.frz 6 rfl 3
                  have k6_4_212 : x208.cell? ⟨bz, 4, none⟩ = some (.string ⟨#[]⟩) := HO.out.cell 6 rfl 4 rfl
                  have lk6_4_212 : x208.frozen? ⟨bz, 4, none⟩ = false := HO.out.frz 6 rfl 4
                  obtain ⟨x213, hx213⟩ : ∃ y, x208.setCell ⟨bz, 1, none⟩ (.int .i64 d1) = y := ⟨_, rfl⟩
                  have hO := HO.out.setCell 6 rfl 1 (.int .i64 d1)
                  rw [hx213] at hO
                  replace HO := Lib.hid (show Own w none0 x213 [blkR bd (.cells #[.int .i64 7, .bool true, .int .i64 0, .string ⟨#[97, 46, 98]⟩, .int .i64 1, .slice (some ⟨g1, 0, none⟩) k2 cap1] 26), rowR (.slice (some ⟨g1, 0, none⟩) k2 cap1) 28 5 k2 (rs.flatMap cRc), rowR (.slice a2 k2 cap2) 28 5 k2 (rs.flatMap cRc), blkR bx (.cells #[.int .i64 7, .bool true, .int .i64 0, .string ⟨#[97, 46, 98]⟩, .int .i64 1, .slice a2 k2 cap2] 26), resC c l, rowR (.slice (some ⟨g5, 0, none⟩) ml p1c) 28 5 ml (m.flatMap cRc), blkR bz (.cells #[.string d0, .int .i64 d1, .int .i64 0, .int .i64 0, .string ⟨#[]⟩] 28)] from hO)
                  clear hO
                  have k6_2_214 : x213.cell? ⟨bz, 2, none⟩ = some (.int .i64 0) := HO.out.cell 6 rfl 2 rfl
                  have lk6_2_214 : x213.frozen? ⟨bz, 2, none⟩ = false := HO.out.frz 6 rfl 2
                  have k6_3_215 : x213.cell? ⟨bz, 3, none⟩ = some (.int .i64 0) := HO.out.cell 6 rfl 3 rfl
                  have lk6_3_215 : x213.frozen? ⟨bz, 3, none⟩ = false := HO.out.frz 6 rfl 3
                  have k6_4_216 : x213.cell? ⟨bz, 4, none⟩ = some (.string ⟨#[]⟩) := HO.out.cell 6 rfl 4 rfl
                  have lk6_4_216 : x213.frozen? ⟨bz, 4, none⟩ = false := HO.out.frz 6 rfl 4
                  obtain ⟨x217, hx217⟩ : ∃ y, x213.setCell ⟨bz, 2, none⟩ (.int .i64 d2) = y := ⟨_, rfl⟩
                  have hO := HO.out.setCell 6 rfl 2 (.int .i64 d2)
                  rw [hx217] at hO
                  replace HO := Lib.hid (show Own w none0 x217 [blkR bd (.cells #[.int .i64 7, .bool true, .int .i64 0, .string ⟨#[97, 46, 98]⟩, .int .i64 1, .slice (some ⟨g1, 0, none⟩) k2 cap1] 26), rowR (.slice (some ⟨g1, 0, none⟩) k2 cap1) 28 5 k2 (rs.flatMap cRc), rowR (.slice a2 k2 cap2) 28 5 k2 (rs.flatMap cRc), blkR bx (.cells #[.int .i64 7, .bool true, .int .i64 0, .string ⟨#[97, 46, 98]⟩, .int .i64 1, .slice a2 k2 cap2] 26), resC c l, rowR (.slice (some ⟨g5, 0, none⟩) ml p1c) 28 5 ml (m.flatMap cRc), blkR bz (.cells #[.string d0, .int .i64 d1, .int .i64 d2, .int .i64 0, .string ⟨#[]⟩] 28)] from hO)
                  clear hO
                  have k6_3_218 : x217.cell? ⟨bz, 3, none⟩ = some (.int .i64 0) := HO.out.cell 6 rfl 3 rfl
                  have lk6_3_218 : x217.frozen? ⟨bz, 3, none⟩ = false := HO.out.frz 6 rfl 3
                  have k6_4_219 : x217.cell? ⟨bz, 4, none⟩ = some (.string ⟨#[]⟩) := HO.out.cell 6 rfl 4 rfl
                  have lk6_4_219 : x217.frozen? ⟨bz, 4, none⟩ = false := HO.out.frz 6 rfl 4
                  obtain ⟨x220, hx220⟩ : ∃ y, x217.setCell ⟨bz, 3, none⟩ (.int .i64 d3) = y := ⟨_, rfl⟩
                  have hO := HO.out.setCell 6 rfl 3 (.int .i64 d3)
                  rw [hx220] at hO
                  replace HO := Lib.hid (show Own w none0 x220 [blkR bd (.cells #[.int .i64 7, .bool true, .int .i64 0, .string ⟨#[97, 46, 98]⟩, .int .i64 1, .slice (some ⟨g1, 0, none⟩) k2 cap1] 26), rowR (.slice (some ⟨g1, 0, none⟩) k2 cap1) 28 5 k2 (rs.flatMap cRc), rowR (.slice a2 k2 cap2) 28 5 k2 (rs.flatMap cRc), blkR bx (.cells #[.int .i64 7, .bool true, .int .i64 0, .string ⟨#[97, 46, 98]⟩, .int .i64 1, .slice a2 k2 cap2] 26), resC c l, rowR (.slice (some ⟨g5, 0, none⟩) ml p1c) 28 5 ml (m.flatMap cRc), blkR bz (.cells #[.string d0, .int .i64 d1, .int .i64 d2, .int .i64 d3, .string ⟨#[]⟩] 28)] from hO)
                  clear hO
                  have k6_4_221 : x220.cell? ⟨bz, 4, none⟩ = some (.string ⟨#[]⟩) := HO.out.cell 6 rfl 4 rfl
                  have lk6_4_221 : x220.frozen? ⟨bz, 4, none⟩ = false := HO.out.frz 6 rfl 4
                  obtain ⟨x222, hx222⟩ : ∃ y, x220.setCell ⟨bz, 4, none⟩ (.string d4) = y := ⟨_, rfl⟩
                  have hO := HO.out.setCell 6 rfl 4 (.string d4)
                  rw [hx222] at hO
                  replace HO := Lib.hid (show Own w none0 x222 [blkR bd (.cells #[.int .i64 7, .bool true, .int .i64 0, .string ⟨#[97, 46, 98]⟩, .int .i64 1, .slice (some ⟨g1, 0, none⟩) k2 cap1] 26), rowR (.slice (some ⟨g1, 0, none⟩) k2 cap1) 28 5 k2 (rs.flatMap cRc), rowR (.slice a2 k2 cap2) 28 5 k2 (rs.flatMap cRc), blkR bx (.cells #[.int .i64 7, .bool true, .int .i64 0, .string ⟨#[97, 46, 98]⟩, .int .i64 1, .slice a2 k2 cap2] 26), resC c l, rowR (.slice (some ⟨g5, 0, none⟩) ml p1c) 28 5 ml (m.flatMap cRc), blkR bz (.cells #[.string d0, .int .i64 d1, .int .i64 d2, .int .i64 d3, .string d4] 28)] from hO)
                  clear hO
                  have c0 : x222.cell? ⟨g1, k3 * 5, none⟩ = some (.string rn) := HYC.out _ (HO.out.take 5) 0 _ (by decide) rfl
                  have c1 : x222.cell? ⟨g1, k3 * 5 + 1, none⟩ = some (.int .i64 rk) := HYC.out _ (HO.out.take 5) 1 _ (by decide) rfl
                  have c2 : x222.cell? ⟨g1, k3 * 5 + 2, none⟩ = some (.int .i64 rt) := HYC.out _ (HO.out.take 5) 2 _ (by decide) rfl
                  have c3 : x222.cell? ⟨g1, k3 * 5 + 3, none⟩ = some (.int .i64 ra) := HYC.out _ (HO.out.take 5) 3 _ (by decide) rfl
                  have c4 : x222.cell? ⟨g1, k3 * 5 + 4, none⟩ = some (.string ro) := HYC.out _ (HO.out.take 5) 4 _ (by decide) rfl
                  have z0_0 : x222.cell? ⟨bd, 0, none⟩ = some (.int .i64 7) := HO.out.cell 0 rfl 0 rfl
                  have z0_1 : x222.cell? ⟨bd, 1, none⟩ = some (.bool true) := HO.out.cell 0 rfl 1 rfl
                  have z0_2 : x222.cell? ⟨bd, 2, none⟩ = some (.int .i64 0) := HO.out.cell 0 rfl 2 rfl
                  have z0_3 : x222.cell? ⟨bd, 3, none⟩ = some (.string ⟨#[97, 46, 98]⟩) := HO.out.cell 0 rfl 3 rfl
                  have z0_4 : x222.cell? ⟨bd, 4, none⟩ = some (.int .i64 1) := HO.out.cell 0 rfl 4 rfl
                  have z0_5 : x222.cell? ⟨bd, 5, none⟩ = some (.slice (some ⟨g1, 0, none⟩) k2 cap1) := HO.out.cell 0 rfl 5 rfl
                  have z6_0 : x222.cell? ⟨bz, 0, none⟩ = some (.string d0) := HO.out.cell 6 rfl 0 rfl
                  have z6_1 : x222.cell? ⟨bz, 1, none⟩ = some (.int .i64 d1) := HO.out.cell 6 rfl 1 rfl
                  have z6_2 : x222.cell? ⟨bz, 2, none⟩ = some (.int .i64 d2) := HO.out.cell 6 rfl 2 rfl
                  have z6_3 : x222.cell? ⟨bz, 3, none⟩ = some (.int .i64 d3) := HO.out.cell 6 rfl 3 rfl
                  have z6_4 : x222.cell? ⟨bz, 4, none⟩ = some (.string d4) := HO.out.cell 6 rfl 4 rfl
                  have hcl := HCL.out
                  have hmq := HML.out
                  go_wp2
                  clear y0 y1 y2 y3 y4 hx202 hbz k6_0_203 lk6_0_203 k6_1_204 lk6_1_204 k6_2_205 lk6_2_205 k6_3_206 lk6_3_206 k6_4_207 lk6_4_207 hx208 k6_1_209 lk6_1_209 k6_2_210 lk6_2_210 k6_3_211 lk6_3_211 k6_4_212 lk6_4_212 hx213 k6_2_214 lk6_2_214 k6_3_215 lk6_3_215 k6_4_216 lk6_4_216 hx217 k6_3_218 lk6_3_218 k6_4_219 lk6_4_219 hx220 k6_4_221 lk6_4_221 hx222 c0 c1 c2 c3 c4 z0_0 z0_1 z0_2 z0_3 z0_4 z0_5 z6_0 z6_1 z6_2 z6_3 z6_4
                  have g0_5 := cell_regrown (show x222.cell? ⟨bd, 5, none⟩ = some (.slice (some ⟨g1, 0, none⟩) k2 cap1) from HO.out.cell 0 rfl 5 rfl)
                  have g6_1 := cell_regrown (show x222.cell? ⟨bz, 1, none⟩ = some (.int .i64 d1) from HO.out.cell 6 rfl 1 rfl)
                  have g6_3 := cell_regrown (show x222.cell? ⟨bz, 3, none⟩ = some (.int .i64 d3) from HO.out.cell 6 rfl 3 rfl)
                  have g6_4 := cell_regrown (show x222.cell? ⟨bz, 4, none⟩ = some (.string d4) from HO.out.cell 6 rfl 4 rfl)
                  have f1 := cell_regrown (show x222.cell? ⟨g1, k3 * 5 + 1, none⟩ = some (.int .i64 rk) from HYC.out _ (HO.out.take 5) 1 _ (by decide) rfl)
                  have f3 := cell_regrown (show x222.cell? ⟨g1, k3 * 5 + 3, none⟩ = some (.int .i64 ra) from HYC.out _ (HO.out.take 5) 3 _ (by decide) rfl)
                  have f4 := cell_regrown (show x222.cell? ⟨g1, k3 * 5 + 4, none⟩ = some (.string ro) from HYC.out _ (HO.out.take 5) 4 _ (by decide) rfl)
                  by_cases h1 : d1 = rk
                  · subst h1
                    have h1b : (d1 == d1) = true := by simp
                    by_cases h3 : d3 = ra
                    · subst h3
                      by_cases h4 : d4.toList = ro.toList
                      · have h4b : (d4.toList == ro.toList) = true := by simp [h4]
                        have hmt : mtB ⟨rn, d1, rt, d3, ro⟩ ⟨d0, d1, d2, d3, d4⟩ = true := by simp [mtB, h4]
                        have HCT := Lib.hid (HCY.out hmt)
                        clear hmt HCY HCN h4
                        refine wp_region_B (by kernel_rfl) (by kernel_rfl) ?_
                        repeat (go_big_quiet_step (fail))
                        refine wpQuiet_nil ?_
                        intro x331 hbw
                        have hO := HO.out.stay hbw
                        clear g0_5 g6_1 g6_3 g6_4 f1 f3 f4 hbw
                        replace HO := Lib.hid (show Own w none0 x331 [blkR bd (.cells #[.int .i64 7, .bool true, .int .i64 0, .string ⟨#[97, 46, 98]⟩, .int .i64 1, .slice (some ⟨g1, 0, none⟩) k2 cap1] 26), rowR (.slice (some ⟨g1, 0, none⟩) k2 cap1) 28 5 k2 (rs.flatMap cRc), rowR (.slice a2 k2 cap2) 28 5 k2 (rs.flatMap cRc), blkR bx (.cells #[.int .i64 7, .bool true, .int .i64 0, .string ⟨#[97, 46, 98]⟩, .int .i64 1, .slice a2 k2 cap2] 26), resC c l, rowR (.slice (some ⟨g5, 0, none⟩) ml p1c) 28 5 ml (m.flatMap cRc), blkR bz (.cells #[.string d0, .int .i64 d1, .int .i64 d2, .int .i64 d3, .string d4] 28)] from hO)
                        clear hO
                        go_wp2
                        go_roundw
                        case rel => exact ⟨j + 1, by omega, by go_num, by rw [HCT.out]; go_num, HO.out.take 6⟩
                        case measure => simp [intOf]; omega
                      · have h4b : (d4.toList == ro.toList) = false := by simpa using h4
                        have hmt : mtB ⟨rn, d1, rt, d3, ro⟩ ⟨d0, d1, d2, d3, d4⟩ = false := by simp [mtB, h4]
                        have HCT := Lib.hid (HCN.out hmt)
                        clear hmt HCY HCN h4
                        refine wp_region_B (by kernel_rfl) (by kernel_rfl) ?_
                        repeat (go_big_quiet_step (fail))
                        refine wpQuiet_nil ?_
                        intro x331 hbw
                        have hO := HO.out.stay hbw
                        clear g0_5 g6_1 g6_3 g6_4 f1 f3 f4 hbw
                        replace HO := Lib.hid (show Own w none0 x331 [blkR bd (.cells #[.int .i64 7, .bool true, .int .i64 0, .string ⟨#[97, 46, 98]⟩, .int .i64 1, .slice (some ⟨g1, 0, none⟩) k2 cap1] 26), rowR (.slice (some ⟨g1, 0, none⟩) k2 cap1) 28 5 k2 (rs.flatMap cRc), rowR (.slice a2 k2 cap2) 28 5 k2 (rs.flatMap cRc), blkR bx (.cells #[.int .i64 7, .bool true, .int .i64 0, .string ⟨#[97, 46, 98]⟩, .int .i64 1, .slice a2 k2 cap2] 26), resC c l, rowR (.slice (some ⟨g5, 0, none⟩) ml p1c) 28 5 ml (m.flatMap cRc), blkR bz (.cells #[.string d0, .int .i64 d1, .int .i64 d2, .int .i64 d3, .string d4] 28)] from hO)
                        clear hO
                        go_wp2
                        go_roundw
                        case rel => exact ⟨j + 1, by omega, by go_num, by rw [HCT.out], HO.out.take 6⟩
                        case measure => simp [intOf]; omega
                    · have h3b : (d3 == ra) = false := by simpa using h3
                      have hmt : mtB ⟨rn, d1, rt, ra, ro⟩ ⟨d0, d1, d2, d3, d4⟩ = false := by simp [mtB, h3]
                      have HCT := Lib.hid (HCN.out hmt)
                      clear hmt HCY HCN h3
                      refine wp_region_B (by kernel_rfl) (by kernel_rfl) ?_
                      repeat (go_big_quiet_step (fail))
                      refine wpQuiet_nil ?_
                      intro x331 hbw
                      have hO := HO.out.stay hbw
                      clear g0_5 g6_1 g6_3 g6_4 f1 f3 f4 hbw
                      replace HO := Lib.hid (show Own w none0 x331 [blkR bd (.cells #[.int .i64 7, .bool true, .int .i64 0, .string ⟨#[97, 46, 98]⟩, .int .i64 1, .slice (some ⟨g1, 0, none⟩) k2 cap1] 26), rowR (.slice (some ⟨g1, 0, none⟩) k2 cap1) 28 5 k2 (rs.flatMap cRc), rowR (.slice a2 k2 cap2) 28 5 k2 (rs.flatMap cRc), blkR bx (.cells #[.int .i64 7, .bool true, .int .i64 0, .string ⟨#[97, 46, 98]⟩, .int .i64 1, .slice a2 k2 cap2] 26), resC c l, rowR (.slice (some ⟨g5, 0, none⟩) ml p1c) 28 5 ml (m.flatMap cRc), blkR bz (.cells #[.string d0, .int .i64 d1, .int .i64 d2, .int .i64 d3, .string d4] 28)] from hO)
                      clear hO
                      go_wp2
                      go_roundw
                      case rel => exact ⟨j + 1, by omega, by go_num, by rw [HCT.out], HO.out.take 6⟩
                      case measure => simp [intOf]; omega
                  · have h1b : (d1 == rk) = false := by simpa using h1
                    have hmt : mtB ⟨rn, rk, rt, ra, ro⟩ ⟨d0, d1, d2, d3, d4⟩ = false := by simp [mtB, h1]
                    have HCT := Lib.hid (HCN.out hmt)
                    clear hmt HCY HCN h1
                    refine wp_region_B (by kernel_rfl) (by kernel_rfl) ?_
                    repeat (go_big_quiet_step (fail))
                    refine wpQuiet_nil ?_
                    intro x331 hbw
                    have hO := HO.out.stay hbw
                    clear g0_5 g6_1 g6_3 g6_4 f1 f3 f4 hbw
                    replace HO := Lib.hid (show Own w none0 x331 [blkR bd (.cells #[.int .i64 7, .bool true, .int .i64 0, .string ⟨#[97, 46, 98]⟩, .int .i64 1, .slice (some ⟨g1, 0, none⟩) k2 cap1] 26), rowR (.slice (some ⟨g1, 0, none⟩) k2 cap1) 28 5 k2 (rs.flatMap cRc), rowR (.slice a2 k2 cap2) 28 5 k2 (rs.flatMap cRc), blkR bx (.cells #[.int .i64 7, .bool true, .int .i64 0, .string ⟨#[97, 46, 98]⟩, .int .i64 1, .slice a2 k2 cap2] 26), resC c l, rowR (.slice (some ⟨g5, 0, none⟩) ml p1c) 28 5 ml (m.flatMap cRc), blkR bz (.cells #[.string d0, .int .i64 d1, .int .i64 d2, .int .i64 d3, .string d4] 28)] from hO)
                    clear hO
                    go_wp2
                    go_roundw
                    case rel => exact ⟨j + 1, by omega, by go_num, by rw [HCT.out], HO.out.take 6⟩
                    case measure => simp [intOf]; omega
                · obtain rfl : j = ml := by omega
                  have hdj : decide ((j : Int) < (j : Int)) = false := decide_eq_false (by omega)
                  rw [show m.take j = m from List.take_of_length_le (by have := HMN.out; omega), HS1.out]
                  go_wp2
                  go_roundw
                  case rel => exact ⟨k3 + 1, by omega, by go_num, HO.out.take 5⟩
                  case measure => simp [intOf]; omega
            · obtain rfl : k3 = k2 := by omega
              have hdl : decide ((k3 : Int) < (k3 : Int)) = false := decide_eq_false (by omega)
              obtain ⟨ll, hll⟩ : ∃ y, l.length = y := ⟨_, rfl⟩
              have hle := HLL.out
              rw [hll] at hle
              have HLE := Lib.hid hll
              clear hll
              have z0_0 : wr.cell? ⟨bd, 0, none⟩ = some (.int .i64 7) := HO.out.cell 0 rfl 0 rfl
              have z0_1 : wr.cell? ⟨bd, 1, none⟩ = some (.bool true) := HO.out.cell 0 rfl 1 rfl
              have z0_2 : wr.cell? ⟨bd, 2, none⟩ = some (.int .i64 0) := HO.out.cell 0 rfl 2 rfl
              have z0_3 : wr.cell? ⟨bd, 3, none⟩ = some (.string ⟨#[97, 46, 98]⟩) := HO.out.cell 0 rfl 3 rfl
              have z0_4 : wr.cell? ⟨bd, 4, none⟩ = some (.int .i64 1) := HO.out.cell 0 rfl 4 rfl
              have z0_5 : wr.cell? ⟨bd, 5, none⟩ = some (.slice a1 k3 cap1) := HO.out.cell 0 rfl 5 rfl
              go_wp2_with fail
              clear z0_0 z0_1 z0_2 z0_3 z0_4 z0_5
              have g0 := cell_regrown (show wr.cell? ⟨bd, 5, none⟩ = some (.slice a1 k3 cap1) from HO.out.cell 0 rfl 5 rfl)
              have hdf : decide ((ll : Int) ≤ (k3 : Int)) = true := decide_eq_true (by omega)
              refine wp_region_B (by kernel_rfl) (by kernel_rfl) ?_
              repeat (go_big_quiet_step ((go_at_call 12; exact Calls.regrown_of (clen_q (HO.out.stay (below_regrown _ _ _)) 4 rfl HLE.out))))
              refine wpQuiet_nil ?_
              intro x331 hbw
              have hO := HO.out.stay hbw
              clear g0 hbw
              go_wp2
              go_ret
              exact ⟨rfl, hO.below⟩
end
theorem stores_walk (len : Nat) (g : Nat → Rw) (v : Value) (a : Addr) (w : World) (hr : RdRw w v len g) (hg : w.cell? ⟨errG, 0, none⟩ = some (errV a)) :
    Calls Tryz.prog 3 #[v] w fun e w' => e = .returned (.bool true) ∧ Below w.heap.size w w' := by
  by_cases h : len ≤ 8
  · exact stores_le len g v a w hr hg h
  · exact stores_gt len 8 g v a w hr hg (by omega) (Nat.le_refl _) (Nat.le_refl _)

end Go.Proofs.YtapeljiopbkjlaaGreatDoor
