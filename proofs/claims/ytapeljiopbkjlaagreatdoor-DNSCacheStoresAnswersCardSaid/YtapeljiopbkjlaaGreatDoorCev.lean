/- Contract of evict. Printed by wip/tools/gen20f.py. -/
import Derived.Test.YtapeljiopbkjlaaGreatDoorCdw
namespace Go.Proofs.YtapeljiopbkjlaaGreatDoor
open Go.RowKit Go.Sort
set_option linter.unusedVariables false
set_option maxRecDepth 100000

/-- The oldest one with the smallest expiry time among the first k entries. -/
def leastTo (l : List En) : Nat → Nat
  | 0 => 0
  | k + 1 => if (l.getD k ⟨⟨#[]⟩, 0, 0, ⟨#[]⟩, 0⟩).ex < (l.getD (leastTo l k) ⟨⟨#[]⟩, 0, 0, ⟨#[]⟩, 0⟩).ex then k else leastTo l k
def evictF (l : List En) : List En := l.eraseIdx (leastTo l l.length)
theorem leastTo_lt {l : List En} (h : 0 < l.length) : ∀ k, k ≤ l.length → leastTo l k < l.length
  | 0, _ => h
  | k + 1, hk => by
    have := leastTo_lt h k (by omega)
    simp only [leastTo]; split <;> omega
theorem getD_eq {l : List En} {k : Nat} (h : k < l.length) (d : En) : l.getD k d = l[k] := by simp [List.getD_eq_getElem?_getD, List.getElem?_eq_getElem h]
set_option maxHeartbeats 8000000 in
theorem evict_o {w0 w : World} {D : Nat → Prop} {L : List Res} {c : Nat} {l : List En} (h : Own w0 D w L) (i : Nat) (hi : L[i]? = some (resC c l)) (h0 : 0 < l.length) (hl : l.length ≤ 1000) :
    Calls Tryz.prog 48 #[.pointer (some ⟨c, 0, none⟩)] w (OPost w0 D (L.set i (resC c (evictF l))) (.tuple #[]) w) := by
  refine o_one h hi fun D HO0 => ?_
  clear h hi
  obtain ⟨v, hO⟩ := openC' HO0
  have HO := Lib.hid (show Own w D w [blkC c v, rowE v l] from hO)
  have HLL := Lib.hid (leastTo_lt h0)
  clear HO0 hO
  obtain ⟨a, cap, hv⟩ := row_shape (HO.out.row 1 rfl)
  obtain ⟨n, hn⟩ : ∃ n, l.length = n := ⟨_, rfl⟩
  have HN := Lib.hid hn
  rw [hn] at hv h0 hl
  have hrw : w.ownsRow 0 78 5 v n (l.flatMap cEn) := by have := HO.out.row 1 rfl; rwa [hn] at this
  subst hv
  obtain ⟨g, rfl⟩ := row_some hrw h0
  clear hrw hn
  have c1 : w.cell? ⟨c, 0, none⟩ = some (.slice (some ⟨g, 0, none⟩) n cap) := HO.out.cell 0 rfl 0 rfl
  go_enter Tryz.func48, Tryz.ntmps48
  go_wp2
  clear c1
  go_loopw [2, 10] (fun lv kv wr => ∃ k : Nat, k ≤ n ∧ lv = .int .i64 (leastTo l k : Nat) ∧ kv = .int .i64 k ∧ Own w D wr [blkC c (.slice (some ⟨g, 0, none⟩) n cap), rowE (.slice (some ⟨g, 0, none⟩) n cap) l]) (fun _ kv _ => n - (intOf kv).toNat)
  case atStart => exact ⟨0, Nat.zero_le _, rfl, rfl, HO.out⟩
  case round =>
    obtain ⟨k, hk, rfl, rfl, hO⟩ := hrel
    have HO := Lib.hid hO
    clear hO
    have hlt2 : leastTo l k < n := by have := HLL.out k (by have := HN.out; omega); have := HN.out; omega
    have HLS := Lib.hid (show leastTo l (k + 1) = if (l.getD k ⟨⟨#[]⟩, 0, 0, ⟨#[]⟩, 0⟩).ex < (l.getD (leastTo l k) ⟨⟨#[]⟩, 0, 0, ⟨#[]⟩, 0⟩).ex then k else leastTo l k from rfl)
    by_cases hlt : k < n
    · obtain ⟨q, hq⟩ : ∃ q, leastTo l k = q := ⟨_, rfl⟩
      rw [hq] at HLS hlt2 ⊢
      clear hq
      have hrw : wr.ownsRow 0 78 5 (.slice (some ⟨g, 0, none⟩) n cap) n (l.flatMap cEn) := by have := HO.out.row 1 rfl; rwa [HN.out] at this
      have hkl : k < l.length := by have := HN.out; omega
      have hql : q < l.length := by have := HN.out; omega
      rw [getD_eq hkl, getD_eq hql] at HLS
      have yc : ∀ q u, q < 5 → (cEn l[k])[q]? = some u → wr.cell? ⟨g, k * 5 + q, none⟩ = some u := fun q u hq hu => (row_cells hrw).1 _ _ (by rw [flat_getR cEn 5 (fun _ => rfl) l k hkl q hq]; exact hu)
      have HE2 := Lib.hid (show ∀ (w' : World), w'.ownsRow 0 78 5 (.slice (some ⟨g, 0, none⟩) n cap) n (l.flatMap cEn) → w'.cell? ⟨g, q * 5 + 4, none⟩ = some (.int .i64 l[q].ex) from fun w' hr => (row_cells hr).1 _ _ (by rw [flat_getR cEn 5 (fun _ => rfl) l q hql 4 (by decide)]; rfl))
      generalize l[q].ex = qx at *
      generalize l[k] = x at *
      obtain ⟨nm, kd, ad, to, ex⟩ := x
      have y0 : wr.cell? ⟨g, k * 5, none⟩ = some (.string nm) := yc 0 _ (by decide) rfl
      have y1 : wr.cell? ⟨g, k * 5 + 1, none⟩ = some (.int .i64 kd) := yc 1 _ (by decide) rfl
      have y2 : wr.cell? ⟨g, k * 5 + 2, none⟩ = some (.int .i64 ad) := yc 2 _ (by decide) rfl
      have y3 : wr.cell? ⟨g, k * 5 + 3, none⟩ = some (.string to) := yc 3 _ (by decide) rfl
      have y4 : wr.cell? ⟨g, k * 5 + 4, none⟩ = some (.int .i64 ex) := yc 4 _ (by decide) rfl
      clear yc hkl hql hrw
      obtain ⟨x21, hx21⟩ : ∃ y, wr.alloc (.cells #[.string ⟨#[]⟩, .int .i64 0, .int .i64 0, .string ⟨#[]⟩, .int .i64 0] 78) = y := ⟨_, rfl⟩
      obtain ⟨bx, hbx⟩ : ∃ y, wr.heap.size = y := ⟨_, rfl⟩
      have hO := HO.out.alloc (.cells #[.string ⟨#[]⟩, .int .i64 0, .int .i64 0, .string ⟨#[]⟩, .int .i64 0] 78)
      rw [hx21, hbx] at hO
      replace HO := Lib.hid (show Own w D x21 [blkC c (.slice (some ⟨g, 0, none⟩) n cap), rowE (.slice (some ⟨g, 0, none⟩) n cap) l, blkR bx (.cells #[.string ⟨#[]⟩, .int .i64 0, .int .i64 0, .string ⟨#[]⟩, .int .i64 0] 78)] from hO)
      clear hO
      have k2_0_22 : x21.cell? ⟨bx, 0, none⟩ = some (.string ⟨#[]⟩) := HO.out.cell 2 rfl 0 rfl
      have lk2_0_22 : x21.frozen? ⟨bx, 0, none⟩ = false := HO.out.frz 2 rfl 0
      have k2_1_23 : x21.cell? ⟨bx, 1, none⟩ = some (.int .i64 0) := HO.out.cell 2 rfl 1 rfl
      have lk2_1_23 : x21.frozen? ⟨bx, 1, none⟩ = false := HO.out.frz 2 rfl 1
      have k2_2_24 : x21.cell? ⟨bx, 2, none⟩ = some (.int .i64 0) := HO.out.cell 2 rfl 2 rfl
      have lk2_2_24 : x21.frozen? ⟨bx, 2, none⟩ = false := HO.out.frz 2 rfl 2
      have k2_3_25 : x21.cell? ⟨bx, 3, none⟩ = some (.string ⟨#[]⟩) := HO.out.cell 2 rfl 3 rfl
      have lk2_3_25 : x21.frozen? ⟨bx, 3, none⟩ = false := HO.out.frz 2 rfl 3
      have k2_4_26 : x21.cell? ⟨bx, 4, none⟩ = some (.int .i64 0) := HO.out.cell 2 rfl 4 rfl
      have lk2_4_26 : x21.frozen? ⟨bx, 4, none⟩ = false := HO.out.frz 2 rfl 4
      obtain ⟨x27, hx27⟩ : ∃ y, x21.setCell ⟨bx, 0, none⟩ (.string nm) = y := ⟨_, rfl⟩
      have hO := HO.out.setCell 2 rfl 0 (.string nm)
      rw [hx27] at hO
      replace HO := Lib.hid (show Own w D x27 [blkC c (.slice (some ⟨g, 0, none⟩) n cap), rowE (.slice (some ⟨g, 0, none⟩) n cap) l, blkR bx (.cells #[.string nm, .int .i64 0, .int .i64 0, .string ⟨#[]⟩, .int .i64 0] 78)] from hO)
      clear hO
      have k2_1_28 : x27.cell? ⟨bx, 1, none⟩ = some (.int .i64 0) := HO.out.cell 2 rfl 1 rfl
      have lk2_1_28 : x27.frozen? ⟨bx, 1, none⟩ = false := HO.out.frz 2 rfl 1
      have k2_2_29 : x27.cell? ⟨bx, 2, none⟩ = some (.int .i64 0) := HO.out.cell 2 rfl 2 rfl
      have lk2_2_29 : x27.frozen? ⟨bx, 2, none⟩ = false := HO.out.frz 2 rfl 2
      have k2_3_30 : x27.cell? ⟨bx, 3, none⟩ = some (.string ⟨#[]⟩) := HO.out.cell 2 rfl 3 rfl
      have lk2_3_30 : x27.frozen? ⟨bx, 3, none⟩ = false := HO.out.frz 2 rfl 3
      have k2_4_31 : x27.cell? ⟨bx, 4, none⟩ = some (.int .i64 0) := HO.out.cell 2 rfl 4 rfl
      have lk2_4_31 : x27.frozen? ⟨bx, 4, none⟩ = false := HO.out.frz 2 rfl 4
      obtain ⟨x32, hx32⟩ : ∃ y, x27.setCell ⟨bx, 1, none⟩ (.int .i64 kd) = y := ⟨_, rfl⟩
      have hO := HO.out.setCell 2 rfl 1 (.int .i64 kd)
      rw [hx32] at hO
      replace HO := Lib.hid (show Own w D x32 [blkC c (.slice (some ⟨g, 0, none⟩) n cap), rowE (.slice (some ⟨g, 0, none⟩) n cap) l, blkR bx (.cells #[.string nm, .int .i64 kd, .int .i64 0, .string ⟨#[]⟩, .int .i64 0] 78)] from hO)
      clear hO
      have k2_2_33 : x32.cell? ⟨bx, 2, none⟩ = some (.int .i64 0) := HO.out.cell 2 rfl 2 rfl
      have lk2_2_33 : x32.frozen? ⟨bx, 2, none⟩ = false := HO.out.frz 2 rfl 2
      have k2_3_34 : x32.cell? ⟨bx, 3, none⟩ = some (.string ⟨#[]⟩) := HO.out.cell 2 rfl 3 rfl
      have lk2_3_34 : x32.frozen? ⟨bx, 3, none⟩ = false := HO.out.frz 2 rfl 3
      have k2_4_35 : x32.cell? ⟨bx, 4, none⟩ = some (.int .i64 0) := HO.out.cell 2 rfl 4 rfl
      have lk2_4_35 : x32.frozen? ⟨bx, 4, none⟩ = false := HO.out.frz 2 rfl 4
      obtain ⟨x36, hx36⟩ : ∃ y, x32.setCell ⟨bx, 2, none⟩ (.int .i64 ad) = y := ⟨_, rfl⟩
      have hO := HO.out.setCell 2 rfl 2 (.int .i64 ad)
      rw [hx36] at hO
      replace HO := Lib.hid (show Own w D x36 [blkC c (.slice (some ⟨g, 0, none⟩) n cap), rowE (.slice (some ⟨g, 0, none⟩) n cap) l, blkR bx (.cells #[.string nm, .int .i64 kd, .int .i64 ad, .string ⟨#[]⟩, .int .i64 0] 78)] from hO)
      clear hO
      have k2_3_37 : x36.cell? ⟨bx, 3, none⟩ = some (.string ⟨#[]⟩) := HO.out.cell 2 rfl 3 rfl
      have lk2_3_37 : x36.frozen? ⟨bx, 3, none⟩ = false := HO.out.frz 2 rfl 3
      have k2_4_38 : x36.cell? ⟨bx, 4, none⟩ = some (.int .i64 0) := HO.out.cell 2 rfl 4 rfl
      have lk2_4_38 : x36.frozen? ⟨bx, 4, none⟩ = false := HO.out.frz 2 rfl 4
      obtain ⟨x39, hx39⟩ : ∃ y, x36.setCell ⟨bx, 3, none⟩ (.string to) = y := ⟨_, rfl⟩
      have hO := HO.out.setCell 2 rfl 3 (.string to)
      rw [hx39] at hO
      replace HO := Lib.hid (show Own w D x39 [blkC c (.slice (some ⟨g, 0, none⟩) n cap), rowE (.slice (some ⟨g, 0, none⟩) n cap) l, blkR bx (.cells #[.string nm, .int .i64 kd, .int .i64 ad, .string to, .int .i64 0] 78)] from hO)
      clear hO
      have k2_4_40 : x39.cell? ⟨bx, 4, none⟩ = some (.int .i64 0) := HO.out.cell 2 rfl 4 rfl
      have lk2_4_40 : x39.frozen? ⟨bx, 4, none⟩ = false := HO.out.frz 2 rfl 4
      obtain ⟨x41, hx41⟩ : ∃ y, x39.setCell ⟨bx, 4, none⟩ (.int .i64 ex) = y := ⟨_, rfl⟩
      have hO := HO.out.setCell 2 rfl 4 (.int .i64 ex)
      rw [hx41] at hO
      replace HO := Lib.hid (show Own w D x41 [blkC c (.slice (some ⟨g, 0, none⟩) n cap), rowE (.slice (some ⟨g, 0, none⟩) n cap) l, blkR bx (.cells #[.string nm, .int .i64 kd, .int .i64 ad, .string to, .int .i64 ex] 78)] from hO)
      clear hO
      go_wp2
      clear y0 y1 y2 y3 y4
      clear hx21 hbx k2_0_22 lk2_0_22 k2_1_23 lk2_1_23 k2_2_24 lk2_2_24 k2_3_25 lk2_3_25 k2_4_26 lk2_4_26 hx27 k2_1_28 lk2_1_28 k2_2_29 lk2_2_29 k2_3_30 lk2_3_30 k2_4_31 lk2_4_31 hx32 k2_2_33 lk2_2_33 k2_3_34 lk2_3_34 k2_4_35 lk2_4_35 hx36 k2_3_37 lk2_3_37 k2_4_38 lk2_4_38 hx39 k2_4_40 lk2_4_40 hx41
      have g1 := cell_regrown (show x41.cell? ⟨c, 0, none⟩ = some (.slice (some ⟨g, 0, none⟩) n cap) from HO.out.cell 0 rfl 0 rfl)
      have g2 := cell_regrown (HE2.out x41 (by have := HO.out.row 1 rfl; rwa [HN.out] at this))
      have g2_4 := cell_regrown (show x41.cell? ⟨bx, 4, none⟩ = some (.int .i64 ex) from HO.out.cell 2 rfl 4 rfl)
      refine wp_region_R 11 (by kernel_rfl) (by kernel_rfl) ?_
      simp only [List.take, List.drop]
      iterate 11 (first | (refine wpR_want (by kernel_rfl) rfl rfl ?_; intro K hK; go_big_quiet_op; go_big_quiet_on) | (refine wpR_is (by kernel_rfl) rfl _ (fun w _ => rfl) ?_; simp only [Act.put, List.setIfInBounds_toArray, List.set_cons_succ, List.set_cons_zero]))
      refine wpR_nil (by kernel_rfl) (by simp) ?_
      rintro w5 hbw
      simp only [exAll]
      simp only [List.drop]
      have hO := HO.out.stay hbw
      replace HO := Lib.hid (show Own w D w5 [blkC c (.slice (some ⟨g, 0, none⟩) n cap), rowE (.slice (some ⟨g, 0, none⟩) n cap) l, blkR bx (.cells #[.string nm, .int .i64 kd, .int .i64 ad, .string to, .int .i64 ex] 78)] from hO)
      clear hO hbw g1 g2 g2_4 
      by_cases hd : ex < qx
      · rw [if_pos hd] at HLS
        go_wp2
        go_roundw
        case rel => exact ⟨k + 1, by omega, by rw [HLS.out], by go_num, HO.out.take 2⟩
        case measure => simp [intOf]; omega
      · rw [if_neg hd] at HLS
        replace hd : qx ≤ ex := by omega
        go_wp2
        go_roundw
        case rel => exact ⟨k + 1, by omega, by rw [HLS.out], by go_num, HO.out.take 2⟩
        case measure => simp [intOf]; omega
    · have hke : n = k := by omega
      subst hke
      have HLE := Lib.hid (show evictF l = l.eraseIdx (leastTo l n) by unfold evictF; rw [HN.out])
      obtain ⟨q, hq⟩ : ∃ q, leastTo l n = q := ⟨_, rfl⟩
      rw [hq] at HLE hlt2 ⊢
      clear hq HLS
      have c1 : wr.cell? ⟨c, 0, none⟩ = some (.slice (some ⟨g, 0, none⟩) n cap) := HO.out.cell 0 rfl 0 rfl
      have hdel := o_stepE (Q := fun (v' : Value) u => u = v') (R' := fun v' => rowE v' (l.eraseIdx q)) HO.out (i := 1) rfl (fun Fr hFr hFD => (delete1 l (Own.one hFr) HN.out hlt2 hl).mono fun e w' ⟨v', he, ho, hs⟩ => ⟨v', v', rfl, he, ho, hs⟩)
      go_wp2_with fail
      refine hdel.mono ?_
      rintro e x1 ⟨v', u, rfl, rfl, hO, hs⟩
      replace HO := Lib.hid (show Own w D x1 [blkC c (.slice (some ⟨g, 0, none⟩) n cap), rowE u (l.eraseIdx q)] from hO)
      obtain ⟨ua, uc, hu⟩ := row_shape (HO.out.row 1 rfl)
      obtain ⟨un, hun⟩ : ∃ un, (l.eraseIdx q).length = un := ⟨_, rfl⟩
      rw [hun] at hu
      subst hu
      clear hdel hO hs c1 hun
      have c1 : x1.cell? ⟨c, 0, none⟩ = some (.slice (some ⟨g, 0, none⟩) n cap) := HO.out.cell 0 rfl 0 rfl
      have f1 : x1.frozen? ⟨c, 0, none⟩ = false := HO.out.frz 0 rfl 0
      obtain ⟨x2, hx2⟩ : ∃ y, x1.setCell ⟨c, 0, none⟩ (.slice ua un uc) = y := ⟨_, rfl⟩
      have hO := HO.out.setCell 0 rfl 0 (.slice ua un uc)
      rw [hx2] at hO
      have HO2 := Lib.hid (shutC' (show Own w D x2 [blkC c (.slice ua un uc), rowE (.slice ua un uc) (l.eraseIdx q)] from hO))
      clear hO
      go_wp2
      go_end0
      exact ⟨rfl, by rw [HLE.out]; exact HO2.out, HO2.out.size⟩

end Go.Proofs.YtapeljiopbkjlaaGreatDoor
