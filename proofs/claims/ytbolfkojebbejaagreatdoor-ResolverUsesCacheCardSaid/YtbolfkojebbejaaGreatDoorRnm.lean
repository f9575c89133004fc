/- The resolver's named. Printed by wip/tools/gen21g.py. -/
import Derived.Test.YtbolfkojebbejaaGreatDoorBn
import Derived.Test.YtbolfkojebbejaaGreatDoorClk
import Derived.Test.YtbolfkojebbejaaGreatDoorBb
set_option linter.unusedVariables false
set_option maxRecDepth 100000
set_option maxHeartbeats 32000000
namespace Go.Proofs.YtbolfkojebbejaaGreatDoor
open Go.RowKit Go.Sort

abbrev rowRc (v : Value) (rs : List Rc) : Res := rowR v 49 5 rs.length (rs.flatMap cRc)
def ofN (s : ByteArray) (rs : List Rc) : List Rc := rs.filter fun r => r.nm.toList == s.toList
theorem oneRc (a : ByteArray) (b c d : Int) (e : ByteArray) : ∀ u ∈ [Value.string a, .int .i64 b, .int .i64 c, .int .i64 d, .string e], u.oneCell' = true := fun u hu => by
 simp at hu
 rcases hu with rfl | rfl | rfl | rfl | rfl <;> rfl
theorem len_filter_take {α : Type} (p : α → Bool) (l : List α) (k : Nat) : ((l.take k).filter p).length ≤ k := Nat.le_trans (List.length_filter_le _ _) (List.length_take_le _ _)
theorem named_o {w : World} {D : Nat → Prop} {v : Value} {rs : List Rc} (s : ByteArray) (h : Own w D w [rowRc v rs]) (hl : rs.length ≤ 1000) :
  Calls Tryz.prog 124 #[v, .string s] w (VPost w D w fun u => [rowRc v rs, rowRc u (ofN s rs)]) := by
 have HO := Hi h
 have HL := Hi hl
 have hr := h.row 0 rfl
 obtain ⟨ra, rc, rfl⟩ := row_shape hr
 obtain ⟨n, hn⟩ : ∃ n, rs.length = n := ⟨_, rfl⟩
 have HN := Hi hn
 rw [hn] at HO hl ⊢
 clear hr hn h
 have rb := run_bsRc
 go_enter Tryz.func124, Tryz.ntmps124
 go_wp2
 go_loopw [5, 10] (fun u iv wr => ∃ k : Nat, k ≤ n ∧ iv = .int .i64 k ∧ Own w D wr [rowRc (.slice ra n rc) rs, rowRc u (ofN s (rs.take k))]) (fun _ iv _ => n - (intOf iv).toNat)
 case atStart => exact ⟨0, Nat.zero_le _, rfl, HO.out.rowNew _ _⟩
 case round =>
  obtain ⟨k, hk, rfl, hO⟩ := hrel
  replace HO := Hi hO
  obtain ⟨ua, uc, rfl⟩ := row_shape (hO.row 1 rfl)
  clear hO
  have hb1 : (n : Int) ≤ 1000 := by omega
  by_cases hlt : k < n
  ·
   have hkl : k < rs.length := by rw [HN.out]; exact hlt
   have hrw := HO.out.row 0 rfl
   rw [HN.out] at hrw
   obtain ⟨g, rfl⟩ := row_some hrw (by omega)
   have yc : ∀ q u, q < 5 → (cRc rs[k])[q]? = some u → wr.cell? ⟨g, k * 5 + q, none⟩ = some u := fun q u hq hu => (row_cells hrw).1 _ _ (by rw [flat_getR cRc 5 (fun _ => rfl) rs k hkl q hq]; exact hu)
   have HFS := Hi (filter_step (p := fun r : Rc => r.nm.toList == s.toList) hkl)
   have HKN := Hi (show (ofN s (rs.take k)).length ≤ k from len_filter_take _ rs k)
   obtain ⟨m, hm⟩ : ∃ m, (ofN s (rs.take k)).length = m := ⟨_, rfl⟩
   have HM := Hi hm
   rw [hm] at HO HKN ⊢
   clear hm
   generalize rs[k] = r at *
   obtain ⟨nm, kd, tt, ad, to⟩ := r
   have y0 : wr.cell? ⟨g, k * 5, none⟩ = some (.string nm) := yc 0 _ (by decide) rfl
   have y1 : wr.cell? ⟨g, k * 5 + 1, none⟩ = some (.int .i64 kd) := yc 1 _ (by decide) rfl
   have y2 : wr.cell? ⟨g, k * 5 + 2, none⟩ = some (.int .i64 tt) := yc 2 _ (by decide) rfl
   have y3 : wr.cell? ⟨g, k * 5 + 3, none⟩ = some (.int .i64 ad) := yc 3 _ (by decide) rfl
   have y4 : wr.cell? ⟨g, k * 5 + 4, none⟩ = some (.string to) := yc 4 _ (by decide) rfl
   clear yc hrw hkl
   replace HO := Hi (show Own w D wr [rowRc (.slice (some ⟨g, 0, none⟩) n rc) rs, rowR (.slice ua m uc) 49 5 m ((ofN s (rs.take k)).flatMap cRc)] from by rw [← HM.out]; have := HO.out; rw [← HM.out] at this; exact this)
   obtain ⟨x21, hx21, bx, hbx, hO⟩ := HO.out.allocE (.cells #[.string ⟨#[]⟩, .int .i64 0, .int .i64 0, .int .i64 0, .string ⟨#[]⟩] 49)
   replace HO := Hi (show Own _ _ _ [_, _, blkR bx (.cells #[.string ⟨#[]⟩, .int .i64 0, .int .i64 0, .int .i64 0, .string ⟨#[]⟩] 49)] from hO)
   clear hO
   obtain ⟨x27, x32, x36, x39, x41, hx27, hx32, hx36, hx39, hx41, k2_0_22, lk2_0_22, k2_1_28, lk2_1_28, k2_2_33, lk2_2_33, k2_3_37, lk2_3_37, k2_4_40, lk2_4_40, hO⟩ := HO.out.steps5 2 rfl (.string nm) (.int .i64 kd) (.int .i64 tt) (.int .i64 ad) (.string to)
   replace HO := Hi (show Own _ _ _ [_, _, blkR bx (.cells #[.string nm, .int .i64 kd, .int .i64 tt, .int .i64 ad, .string to] 49)] from hO)
   clear hO
   obtain ⟨z2_0, z2_1, z2_2, z2_3, z2_4⟩ := HO.out.c5 2 rfl
   cases he : (nm.toList == s.toList) with
   | false =>
    have HRT := Hi (show ofN s (rs.take (k + 1)) = ofN s (rs.take k) by
     show (rs.take (k + 1)).filter _ = (rs.take k).filter _
     rw [HFS.out]; simp [he])
    clear HFS
    go_wp2
    go_roundw
    case rel => exact ⟨k + 1, by omega, by go_num, by rw [HRT.out, ← HM.out]; have := HO.out.take 2; rw [← HM.out] at this; exact this⟩
    case measure => simp [intOf]; omega
   | true =>
    have HRT := Hi (show ofN s (rs.take (k + 1)) = ofN s (rs.take k) ++ [⟨nm, kd, tt, ad, to⟩] by
     show (rs.take (k + 1)).filter _ = (rs.take k).filter _ ++ _
     rw [HFS.out]; simp [he])
    clear HFS
    obtain ⟨x42, hx42, bn, hbn, hO⟩ := HO.out.allocE (.cells #[.string nm, .int .i64 kd, .int .i64 tt, .int .i64 ad, .string to] 49)
    replace HO := Hi (show Own _ _ _ [_, _, _, blkR bn (.cells #[.string nm, .int .i64 kd, .int .i64 tt, .int .i64 ad, .string to] 49)] from hO)
    clear hO
    go_wp2_with ((at_builtin; refine (show _ = True → _ from fun h => of_eq_true h) ?_))
    refine eq_true ?_
    refine wpList_appO rfl (.tmp 18) (.tmp 20) 50 rfl Tryz.underlying50 infoRc rfl (by decide) HO.out 1 rfl rfl 3 1 1 [.string nm, .int .i64 kd, .int .i64 tt, .int .i64 ad, .string to] rfl rfl rfl (oneRc _ _ _ _ _) (by have := HKN.out; unfold maxLen; omega) (by have := HKN.out; omega) ?_
    intro v9 x9 hO
    clear hx21 hbx k2_0_22 lk2_0_22 hx27 k2_1_28 lk2_1_28 hx32 k2_2_33 lk2_2_33 hx36 k2_3_37 lk2_3_37 hx39 k2_4_40 lk2_4_40 hx41 z2_0 z2_1 z2_2 z2_3 z2_4 hx42 hbn
    clear rb y0 y1 y2 y3 y4 he
    have e1 : rowR v9 49 5 (m + 1) ((ofN s (rs.take k)).flatMap cRc ++ [.string nm, .int .i64 kd, .int .i64 tt, .int .i64 ad, .string to]) = rowRc v9 (ofN s (rs.take (k + 1))) := by
     rw [HRT.out]
     show _ = rowR _ _ _ _ _
     rw [List.length_append, List.flatMap_append, HM.out]; rfl
    simp only [l_S, l_Z, e1] at hO
    replace HO := Hi (show Own w D x9 [rowRc (.slice (some ⟨g, 0, none⟩) n rc) rs, rowRc v9 (ofN s (rs.take (k + 1)))] from Own.take hO 2)
    clear hO e1
    go_wp2
    go_roundw
    case rel => exact ⟨k + 1, by omega, by go_num, HO.out⟩
    case measure => simp [intOf]; omega
  ·
   obtain rfl : k = n := by omega
   have hd : decide ((k : Int) < (k : Int)) = false := decide_eq_false (by omega)
   have HT := Hi (show rs.take k = rs by rw [← HN.out]; exact List.take_length)
   rw [HT.out] at HO ⊢
   go_wp2
   go_ret
   exact ⟨_, rfl, HO.out, HO.out.size⟩

end Go.Proofs.YtbolfkojebbejaaGreatDoor
