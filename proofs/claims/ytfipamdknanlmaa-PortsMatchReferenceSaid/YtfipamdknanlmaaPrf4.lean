/- The reference of chapter 23: Release and BindAny. Printed by wip/tools/gen23v.py. -/
import Derived.Test.YtfipamdknanlmaaPrf3
namespace Go.Proofs.Ytfipamdknanlmaa
open Go.RowKit Go.Sort
set_option linter.unusedVariables false

variable {w0 w : World} {D : Nat → Prop} {L : List Res} {q : Nat} {st : PSt}
theorem row_sl {E sz n : Nat} {a : Option Addr} {cap : Nat} {α : Type} {c : α → List Value} {l : List α} (hc : ∀ x, (c x).length = sz) (h : w.ownsRow 0 E sz (.slice a n cap) n (l.flatMap c)) (hl : l.length = n) (h0 : 0 < n) :
    ∃ g, a = some ⟨g, 0, none⟩ ∧ ∀ (k : Nat) (hk : k < l.length) (j : Nat), j < sz → w.cell? ⟨g, k * sz + j, none⟩ = (c l[k])[j]? := by
  obtain ⟨a', cap', e, h2⟩ := row_at hc h hl
  cases e
  exact h2 h0
theorem rel_take {κ : Type} {s : Int} {l : List (κ × Int)} {k : Nat} (hk : k < l.length) : rel s (l.take (k + 1)) = rel s (l.take k) ++ if l[k].2 = s then [] else [l[k]] := by
  rw [List.take_succ_eq_append_getElem hk, rel, List.filter_append]
  congr 1
  by_cases h : l[k].2 = s <;> simp [h]
theorem rel_tlen {κ : Type} (s : Int) (l : List (κ × Int)) (k : Nat) : (rel s (l.take k)).length ≤ k := Nat.le_trans (List.length_filter_le _ _) (by simp; omega)
theorem rel_full {κ : Type} (s : Int) (l : List (κ × Int)) : rel s (l.take l.length) = rel s l := by rw [List.take_length]

set_option maxRecDepth 100000 in
set_option maxHeartbeats 4000000 in
theorem rrel_o {s : Int} (h : Own w0 D w L) (i : Nat) (hi : L[i]? = some (resQ q st)) (hl1 : st.B.length ≤ 1000000) (hl2 : st.J.length ≤ 1000000) :
    Calls Try.prog 28 #[.pointer (some ⟨q, 0, none⟩), .int .i64 s] w (OPost w0 D (L.set i (resQ q (relS st s))) (.tuple #[]) w) := by
  refine o_one h hi fun D HO0 => ?_
  clear h hi
  obtain ⟨vB, vJ, HO0⟩ := openQ HO0
  have HL1 := Lib.hid hl1
  have HL2 := Lib.hid hl2
  obtain ⟨aB, cB, rfl⟩ := row_slice (HO0.row 1 rfl)
  obtain ⟨aJ, cJ, rfl⟩ := row_slice (HO0.row 2 rfl)
  obtain ⟨sd, gv, B, J⟩ := st
  simp only at hl1 hl2
  have HO := Lib.hid (show Own w D w [blkQ q (.slice aB B.length cB) (.slice aJ J.length cJ) sd gv, rowB (.slice aB B.length cB) B, rowJ (.slice aJ J.length cJ) J] from HO0)
  clear HO0
  have c0 : w.cell? ⟨q, 0, none⟩ = some (.slice aB B.length cB) := HO.out.cell 0 rfl 0 rfl
  go_enter Try.func28, Try.ntmps28
  go_wp2
  clear c0
  replace HO := Lib.hid (show Own w D w [blkQ q (.slice aB B.length cB) (.slice aJ J.length cJ) sd gv, rowB (.slice aB B.length cB) B, rowJ (.slice aJ J.length cJ) J, rowB (.slice none 0 0) (rel s (B.take 0))] from HO.out.rowNew 80 3)
  go_loopw [4, 5] (fun v i wr => ∃ k : Nat, k ≤ B.length ∧ i = .int .i64 k ∧ Own w D wr [blkQ q (.slice aB B.length cB) (.slice aJ J.length cJ) sd gv, rowB (.slice aB B.length cB) B, rowJ (.slice aJ J.length cJ) J, rowB v (rel s (B.take k))]) (fun _ i _ => B.length - (intOf i).toNat)
  case atStart => exact ⟨0, Nat.zero_le _, rfl, HO.out⟩
  case round =>
    obtain ⟨k, hk, rfl, hO⟩ := hrel
    replace HO := Lib.hid hO
    clear hO
    have c0 : wr.cell? ⟨q, 0, none⟩ = some (.slice aB B.length cB) := HO.out.cell 0 rfl 0 rfl
    by_cases hlt : k < B.length
    · obtain ⟨g, rfl, hcc⟩ := row_sl (c := cBd) (fun x => rfl) (HO.out.row 1 rfl) rfl (by omega)
      have d0 : wr.cell? ⟨g, k * 3, none⟩ = some (.int .i64 B[k].1.pr) := hcc k hlt 0 (by decide)
      have d1 : wr.cell? ⟨g, k * 3 + 1, none⟩ = some (.int .i64 B[k].1.po) := hcc k hlt 1 (by decide)
      have d2 : wr.cell? ⟨g, k * 3 + 2, none⟩ = some (.int .i64 B[k].2) := hcc k hlt 2 (by decide)
      have HRT := Lib.hid (rel_take (s := s) hlt)
      have HTL := Lib.hid (rel_tlen s B k)
      obtain ⟨y0, hy0⟩ : ∃ y, B[k].1.pr = y := ⟨_, rfl⟩
      obtain ⟨y1, hy1⟩ : ∃ y, B[k].1.po = y := ⟨_, rfl⟩
      obtain ⟨y2, hy2⟩ : ∃ y, B[k].2 = y := ⟨_, rfl⟩
      have HEL := Lib.hid (show B[k] = ((⟨y0, y1⟩ : Bk), y2) by rw [← hy0, ← hy1, ← hy2])
      simp only [hy0, hy1, hy2] at d0 d1 d2 HRT
      rw [HEL.out] at HRT
      clear hcc hy0 hy1 hy2 HEL
      by_cases hs : y2 = s
      · have e0 : (y2 == s) = true := by simpa using hs
        rw [if_pos hs, List.append_nil] at HRT
        clear hs
        go_wp2
        go_roundw
        case rel => exact ⟨k + 1, by omega, by go_num, by rw [HRT.out]; exact HO.out⟩
        case measure => simp [intOf]; omega
      · have e0 : (y2 == s) = false := by simpa using hs
        rw [if_neg hs] at HRT
        clear hs
        have rb := run_bsBd
        obtain ⟨x51, hx51⟩ : ∃ y, wr.alloc (.cells #[.int .i64 y0, .int .i64 y1, .int .i64 y2] 80) = y := ⟨_, rfl⟩
        obtain ⟨bn, hbn⟩ : ∃ y, wr.heap.size = y := ⟨_, rfl⟩
        have hO := HO.out.alloc (.cells #[.int .i64 y0, .int .i64 y1, .int .i64 y2] 80)
        rw [hx51, hbn] at hO
        replace HO := Lib.hid (show Own w D x51 [blkQ q (.slice (some ⟨g, 0, none⟩) B.length cB) (.slice aJ J.length cJ) sd gv, rowB (.slice (some ⟨g, 0, none⟩) B.length cB) B, rowJ (.slice aJ J.length cJ) J, rowB u4 (rel s (B.take k)), blkR bn (.cells #[.int .i64 y0, .int .i64 y1, .int .i64 y2] 80)] from hO)
        clear hO
        obtain ⟨nr, hnr⟩ : ∃ n, (rel s (B.take k)).length = n := ⟨_, rfl⟩
        have HNR := Lib.hid hnr
        have HTL2 := Lib.hid (show nr ≤ k by rw [← hnr]; exact HTL.out)
        clear hnr
        go_wp2_with ((at_builtin; refine (show _ = True → _ from fun h => of_eq_true h) ?_))
        refine eq_true ?_
        refine wpList_appO rfl (.tmp 27) (.tmp 35) 68 rfl Try.underlying68 infoBd rfl (by decide) HO.out 3 rfl rfl 4 1 1 [.int .i64 y0, .int .i64 y1, .int .i64 y2] rfl rfl rfl (one3 _ _ _) (by have := HTL.out; unfold maxLen; omega) (by have := HTL.out; omega) ?_
        intro v9 x9 hO
        clear hx51 hbn
        clear rb c0 e0 d0 d1 d2
        have e1 : rowR v9 80 3 ((rel s (B.take k)).length + 1) ((rel s (B.take k)).flatMap cBd ++ [.int .i64 y0, .int .i64 y1, .int .i64 y2]) = rowB v9 (rel s (B.take (k + 1))) := by
          rw [HRT.out]
          show _ = rowR _ _ _ _ _
          rw [List.length_append, List.flatMap_append]; rfl
        simp only [List.set_cons_succ, List.set_cons_zero, e1] at hO
        replace HO := Lib.hid (show Own w D x9 [blkQ q (.slice (some ⟨g, 0, none⟩) B.length cB) (.slice aJ J.length cJ) sd gv, rowB (.slice (some ⟨g, 0, none⟩) B.length cB) B, rowJ (.slice aJ J.length cJ) J, rowB v9 (rel s (B.take (k + 1)))] from hO.take 4)
        clear hO e1
        go_wp2
        go_roundw
        case rel => exact ⟨k + 1, by omega, by go_num, HO.out⟩
        case measure => simp [intOf]; omega
    · obtain rfl : k = B.length := by omega
      rw [rel_full] at HO
      have cj : wr.cell? ⟨q, 1, none⟩ = some (.slice aJ J.length cJ) := HO.out.cell 0 rfl 1 rfl
      go_wp2
      clear cj c0
      obtain ⟨wo, hwo⟩ : ∃ wo : World, wo = wr := ⟨_, rfl⟩
      replace HO := Lib.hid (show Own w D wr [blkQ q (.slice aB B.length cB) (.slice aJ J.length cJ) sd gv, rowB (.slice aB B.length cB) B, rowJ (.slice aJ J.length cJ) J, rowB u4 (rel s B), rowJ (.slice none 0 0) (rel s (J.take 0))] from HO.out.rowNew 78 4)
      go_loopw [6, 7] (fun v i wr => ∃ k : Nat, k ≤ J.length ∧ i = .int .i64 k ∧ Own w D wr [blkQ q (.slice aB B.length cB) (.slice aJ J.length cJ) sd gv, rowB (.slice aB B.length cB) B, rowJ (.slice aJ J.length cJ) J, rowB u4 (rel s B), rowJ v (rel s (J.take k))]) (fun _ i _ => J.length - (intOf i).toNat)
      case atStart => exact ⟨0, Nat.zero_le _, rfl, HO.out⟩
      case round =>
        obtain ⟨k, hk, rfl, hO⟩ := hrel
        replace HO := Lib.hid hO
        clear hO
        have c0 : wr.cell? ⟨q, 1, none⟩ = some (.slice aJ J.length cJ) := HO.out.cell 0 rfl 1 rfl
        by_cases hlt : k < J.length
        · obtain ⟨g, rfl, hcc⟩ := row_sl (c := cJd) (fun x => rfl) (HO.out.row 2 rfl) rfl (by omega)
          have d0 : wr.cell? ⟨g, k * 4, none⟩ = some (.int .i64 J[k].2) := hcc k hlt 0 (by decide)
          have d1 : wr.cell? ⟨g, k * 4 + 1, none⟩ = some (.int .i64 J[k].1.po) := hcc k hlt 1 (by decide)
          have d2 : wr.cell? ⟨g, k * 4 + 2, none⟩ = some (.int .i64 J[k].1.th) := hcc k hlt 2 (by decide)
          have d3 : wr.cell? ⟨g, k * 4 + 3, none⟩ = some (.int .i64 J[k].1.tp) := hcc k hlt 3 (by decide)
          have HRT := Lib.hid (rel_take (s := s) hlt)
          have HTL := Lib.hid (rel_tlen s J k)
          obtain ⟨y0, hy0⟩ : ∃ y, J[k].2 = y := ⟨_, rfl⟩
          obtain ⟨y1, hy1⟩ : ∃ y, J[k].1.po = y := ⟨_, rfl⟩
          obtain ⟨y2, hy2⟩ : ∃ y, J[k].1.th = y := ⟨_, rfl⟩
          obtain ⟨y3, hy3⟩ : ∃ y, J[k].1.tp = y := ⟨_, rfl⟩
          have HEL := Lib.hid (show J[k] = ((⟨y1, y2, y3⟩ : Ck), y0) by rw [← hy0, ← hy1, ← hy2, ← hy3])
          simp only [hy0, hy1, hy2, hy3] at d0 d1 d2 d3 HRT
          rw [HEL.out] at HRT
          clear hcc hy0 hy1 hy2 hy3 HEL
          by_cases hs : y0 = s
          · have e0 : (y0 == s) = true := by simpa using hs
            rw [if_pos hs, List.append_nil] at HRT
            clear hs
            go_wp2
            go_roundw
            case rel => exact ⟨k + 1, by omega, by go_num, by rw [HRT.out]; exact HO.out⟩
            case measure => simp [intOf]; omega
          · have e0 : (y0 == s) = false := by simpa using hs
            rw [if_neg hs] at HRT
            clear hs
            have rb := run_bsJd
            obtain ⟨x51, hx51⟩ : ∃ y, wr.alloc (.cells #[.int .i64 y0, .int .i64 y1, .int .i64 y2, .int .i64 y3] 78) = y := ⟨_, rfl⟩
            obtain ⟨bn, hbn⟩ : ∃ y, wr.heap.size = y := ⟨_, rfl⟩
            have hO := HO.out.alloc (.cells #[.int .i64 y0, .int .i64 y1, .int .i64 y2, .int .i64 y3] 78)
            rw [hx51, hbn] at hO
            replace HO := Lib.hid (show Own w D x51 [blkQ q (.slice aB B.length cB) (.slice (some ⟨g, 0, none⟩) J.length cJ) sd gv, rowB (.slice aB B.length cB) B, rowJ (.slice (some ⟨g, 0, none⟩) J.length cJ) J, rowB u4 (rel s B), rowJ u6 (rel s (J.take k)), blkR bn (.cells #[.int .i64 y0, .int .i64 y1, .int .i64 y2, .int .i64 y3] 78)] from hO)
            clear hO
            obtain ⟨nr, hnr⟩ : ∃ n, (rel s (J.take k)).length = n := ⟨_, rfl⟩
            have HNR := Lib.hid hnr
            have HTL2 := Lib.hid (show nr ≤ k by rw [← hnr]; exact HTL.out)
            clear hnr
            go_wp2_with ((at_builtin; refine (show _ = True → _ from fun h => of_eq_true h) ?_))
            refine eq_true ?_
            refine wpList_appO rfl (.tmp 56) (.tmp 64) 69 rfl Try.underlying69 infoJd rfl (by decide) HO.out 4 rfl rfl 5 1 1 [.int .i64 y0, .int .i64 y1, .int .i64 y2, .int .i64 y3] rfl rfl rfl (one4 _ _ _ _) (by have := HTL.out; unfold maxLen; omega) (by have := HTL.out; omega) ?_
            intro v9 x9 hO
            clear hx51 hbn
            clear rb c0 e0 d0 d1 d2 d3
            have e1 : rowR v9 78 4 ((rel s (J.take k)).length + 1) ((rel s (J.take k)).flatMap cJd ++ [.int .i64 y0, .int .i64 y1, .int .i64 y2, .int .i64 y3]) = rowJ v9 (rel s (J.take (k + 1))) := by
              rw [HRT.out]
              show _ = rowR _ _ _ _ _
              rw [List.length_append, List.flatMap_append]; rfl
            simp only [List.set_cons_succ, List.set_cons_zero, e1] at hO
            replace HO := Lib.hid (show Own w D x9 [blkQ q (.slice aB B.length cB) (.slice (some ⟨g, 0, none⟩) J.length cJ) sd gv, rowB (.slice aB B.length cB) B, rowJ (.slice (some ⟨g, 0, none⟩) J.length cJ) J, rowB u4 (rel s B), rowJ v9 (rel s (J.take (k + 1)))] from hO.take 5)
            clear hO e1
            go_wp2
            go_roundw
            case rel => exact ⟨k + 1, by omega, by go_num, HO.out⟩
            case measure => simp [intOf]; omega
        · obtain rfl : k = J.length := by omega
          rw [rel_full] at HO
          obtain ⟨a1, c1, hv1⟩ := row_slice (HO.out.row 3 rfl)
          obtain ⟨n1, hn1⟩ : ∃ n, (rel s B).length = n := ⟨_, rfl⟩
          rw [hn1] at hv1
          subst hv1
          clear hn1
          obtain ⟨a2, c2, hv2⟩ := row_slice (HO.out.row 4 rfl)
          obtain ⟨n2, hn2⟩ : ∃ n, (rel s J).length = n := ⟨_, rfl⟩
          rw [hn2] at hv2
          subst hv2
          clear hn2
          have z0 : wr.cell? ⟨q, 0, none⟩ = some (.slice aB B.length cB) := HO.out.cell 0 rfl 0 rfl
          have f0 : wr.frozen? ⟨q, 0, none⟩ = false := HO.out.frz 0 rfl 0
          obtain ⟨xa, hxa⟩ : ∃ y, wr.setCell ⟨q, 0, none⟩ (.slice a1 n1 c1) = y := ⟨_, rfl⟩
          have hO := HO.out.setCell 0 rfl 0 (.slice a1 n1 c1)
          rw [hxa] at hO
          replace HO := Lib.hid hO
          clear hO
          have z1 : xa.cell? ⟨q, 1, none⟩ = some (.slice aJ J.length cJ) := HO.out.cell 0 rfl 1 rfl
          have f1 : xa.frozen? ⟨q, 1, none⟩ = false := HO.out.frz 0 rfl 1
          obtain ⟨xb, hxb⟩ : ∃ y, xa.setCell ⟨q, 1, none⟩ (.slice a2 n2 c2) = y := ⟨_, rfl⟩
          have hO := HO.out.setCell 0 rfl 1 (.slice a2 n2 c2)
          rw [hxb] at hO
          have HO2 := Lib.hid (show Own w D xb [blkQ q (.slice a1 n1 c1) (.slice a2 n2 c2) sd gv, rowB (.slice a1 n1 c1) (rel s B), rowJ (.slice a2 n2 c2) (rel s J)] from hO.pick [0, 3, 4] (by decide) (fun k R hk => by
            match k, hk with
            | 0, hk => exact ⟨0, rfl, hk⟩
            | 1, hk => exact ⟨3, rfl, hk⟩
            | 2, hk => exact ⟨4, rfl, hk⟩))
          clear hO HO
          go_wp2
          go_end0
          exact ⟨rfl, shutQ (st := relS ⟨sd, gv, B, J⟩ s) HO2.out, HO2.out.size⟩


end Go.Proofs.Ytfipamdknanlmaa
