/- The reference of chapter 23: what changes it. Printed by wip/tools/gen23t.py. -/
import Derived.Test.YtfipamdknanlmaaPrf2
namespace Go.Proofs.Ytfipamdknanlmaa
open Go.RowKit Go.Sort
set_option linter.unusedVariables false

variable {w0 w : World} {D : Nat → Prop} {L : List Res} {q : Nat} {st : PSt}
theorem infoBd : (Try.prog.info? 80).map (fun i => (i.zero, i.size, i.bytes)) = some (some (.agg #[.int .i64 0, .int .i64 0, .int .i64 0]), 3, 24) := by kernel_rfl
theorem infoJd : (Try.prog.info? 78).map (fun i => (i.zero, i.size, i.bytes)) = some (some (.agg #[.int .i64 0, .int .i64 0, .int .i64 0, .int .i64 0]), 4, 32) := by kernel_rfl
theorem run_bsBd (x0 x1 x2 : Int) (w : World) : (Instr.buildSlice 68 1 #[(0, .agg #[.int .i64 x0, .int .i64 x1, .int .i64 x2])]).run Try.prog w = .ok (.slice (some ⟨w.heap.size, 0, none⟩) 1 1) (w.alloc (.cells #[.int .i64 x0, .int .i64 x1, .int .i64 x2] 80)) := by kernel_rfl
theorem run_bsJd (x0 x1 x2 x3 : Int) (w : World) : (Instr.buildSlice 69 1 #[(0, .agg #[.int .i64 x0, .int .i64 x1, .int .i64 x2, .int .i64 x3])]).run Try.prog w = .ok (.slice (some ⟨w.heap.size, 0, none⟩) 1 1) (w.alloc (.cells #[.int .i64 x0, .int .i64 x1, .int .i64 x2, .int .i64 x3] 78)) := by kernel_rfl
theorem one3 (a b c : Int) : ∀ u ∈ ([.int .i64 a, .int .i64 b, .int .i64 c] : List Value), u.oneCell' = true := by
  intro u hu; simp only [List.mem_cons, List.not_mem_nil, or_false] at hu; rcases hu with h | h | h <;> (subst h; rfl)
theorem one4 (a b c d : Int) : ∀ u ∈ ([.int .i64 a, .int .i64 b, .int .i64 c, .int .i64 d] : List Value), u.oneCell' = true := by
  intro u hu; simp only [List.mem_cons, List.not_mem_nil, or_false] at hu; rcases hu with h | h | h | h <;> (subst h; rfl)
theorem rpr_r {n : Int} {b : Bool} (h : vpr n = b) (w : World) : Calls Try.prog 41 #[.int .i64 n] w fun e w' => e = .returned (.bool b) ∧ w = w' := h ▸ rpr_any n w
theorem rpo_r {n : Int} {b : Bool} (h : vpo n = b) (w : World) : Calls Try.prog 42 #[.int .i64 n] w fun e w' => e = .returned (.bool b) ∧ w = w' := h ▸ rpo_any n w
theorem rad_r {n : Int} {b : Bool} (h : vad n = b) (w : World) : Calls Try.prog 46 #[.int .i64 n] w fun e w' => e = .returned (.bool b) ∧ w = w' := h ▸ rad_any n w
theorem rbound_r {pr po s : Int} {b : Bool} (hb : boundF st pr po s = b) (h : RdQ w q st) (hl : st.B.length ≤ 1000000) :
    Calls Try.prog 43 #[.pointer (some ⟨q, 0, none⟩), .int .i64 pr, .int .i64 po, .int .i64 s] w fun e w' => e = .returned (.bool b) ∧ w = w' := hb ▸ rbound_any pr po s h hl
theorem joined_r {po : Int} {b : Bool} (hb : joinedF st po = b) (h : RdQ w q st) (hl : st.J.length ≤ 1000000) :
    Calls Try.prog 45 #[.pointer (some ⟨q, 0, none⟩), .int .i64 po] w fun e w' => e = .returned (.bool b) ∧ w = w' := hb ▸ joined_any po h hl
theorem own_rd {vB vJ : Value} {Rs : List Res} (h : Own w0 D w (blkQ q vB vJ st.seed st.given :: rowB vB st.B :: rowJ vJ st.J :: Rs)) : RdQ w q st := ⟨vB, vJ, h.blk 0 rfl, h.row 1 rfl, h.row 2 rfl⟩
def rbindE (st : PSt) (pr po s : Int) : Int := if vpr pr && vpo po then (if boundF st pr po s then 231 else 0) else 230
def rbindS (st : PSt) (pr po s : Int) : PSt := if rbindE st pr po s = 0 then addB st ⟨pr, po⟩ s else st
def rconnE (st : PSt) (s po th tp : Int) : Int := if vpo po && vpo tp && vad th then (if st.J.any (pJ po th tp) then 231 else 0) else 230
def rconnS (st : PSt) (s po th tp : Int) : PSt := if rconnE st s po th tp = 0 then addJ st ⟨po, th, tp⟩ s else st

theorem rnew_o (sd : Int) (h : Own w0 D w L) : Calls Try.prog 10 #[.int .i64 sd] w fun e w' => ∃ q, e = .returned (.pointer (some ⟨q, 0, none⟩)) ∧ Own w0 D w' (L ++ [resQ q ⟨sd, 0, [], []⟩]) ∧ w.heap.size ≤ w'.heap.size := by
  have r1 : ∀ (w : World) (x : Int), (Instr.build 71 #[(2, .int .i64 x)]).run Try.prog w = .ok (.agg #[.slice none 0 0, .slice none 0 0, .int .i64 x, .int .i64 0]) w := fun w x => by kernel_rfl
  have HO := Lib.hid h
  clear h
  go_enter Try.func10, Try.ntmps10
  go_wp2
  go_ret
  refine ⟨w.heap.size, rfl, HO.out.push (R := resQ w.heap.size ⟨sd, 0, [], []⟩) (F := fun b => b = w.heap.size) ⟨(.slice none 0 0, .slice none 0 0), fun i b => i = 0 ∧ b = w.heap.size, fun i R hi => ?_, fun i j hi hj hij b => ?_, fun b => ?_⟩ (fun b hb => by rw [hb]; exact Nat.le_refl _) (below_one w _), (below_one w _).size⟩
  · match i, hi with
    | 0, hi => cases hi; exact ⟨fun b => by simp, by show (w.heap.push _)[w.heap.size]? = _; simp⟩
    | 1, hi => cases hi; exact ⟨fun b => by simp [Value.ownBlock], World.ownsRow_nil _ _ _ _⟩
    | 2, hi => cases hi; exact ⟨fun b => by simp [Value.ownBlock], World.ownsRow_nil _ _ _ _⟩
  · rintro ⟨rfl, _⟩ ⟨rfl, _⟩; exact hij rfl
  · constructor
    · intro hb; exact ⟨0, by simp, rfl, hb⟩
    · rintro ⟨i, _, _, hb⟩; exact hb

set_option maxRecDepth 100000 in
set_option maxHeartbeats 2000000 in
theorem rbind_o {pr po s : Int} (h : Own w0 D w L) (i : Nat) (hi : L[i]? = some (resQ q st)) (hl1 : st.B.length ≤ 1000000) (hl2 : st.J.length ≤ 1000000) :
    Calls Try.prog 25 #[.pointer (some ⟨q, 0, none⟩), .int .i64 pr, .int .i64 po, .int .i64 s] w (OPost w0 D (L.set i (resQ q (rbindS st pr po s))) (.int .i64 (rbindE st pr po s)) w) := by
  refine o_one h hi fun D HO0 => ?_
  clear h hi
  obtain ⟨vB, vJ, HO0⟩ := openQ HO0
  have HL1 := Lib.hid hl1
  have HL2 := Lib.hid hl2
  clear hl1 hl2
  have HO := Lib.hid (show Own w D w [blkQ q vB vJ st.seed st.given, rowB vB st.B, rowJ vJ st.J] from HO0)
  clear HO0
  cases h1 : vpr pr with
  | false =>
    have HE := Lib.hid (show rbindE st pr po s = 230 by simp [rbindE, h1])
    have HS := Lib.hid (show rbindS st pr po s = st by simp [rbindS, HE.out])
    go_enter Try.func25, Try.ntmps25
    go_wp2_with fail
    refine (rpr_r h1 _).mono ?_
    rintro e xp ⟨rfl, rfl⟩
    go_wp2
    go_ret
    exact ⟨by rw [HE.out]; rfl, by rw [HS.out]; exact shutQ HO.out, HO.out.size⟩
  | true =>
    cases h2 : vpo po with
    | false =>
      have HE := Lib.hid (show rbindE st pr po s = 230 by simp [rbindE, h1, h2])
      have HS := Lib.hid (show rbindS st pr po s = st by simp [rbindS, HE.out])
      go_enter Try.func25, Try.ntmps25
      go_wp2_with fail
      refine (rpr_r h1 _).mono ?_
      rintro e xp ⟨rfl, rfl⟩
      go_wp2_with fail
      refine (rpo_r h2 _).mono ?_
      rintro e xp ⟨rfl, rfl⟩
      go_wp2
      go_ret
      exact ⟨by rw [HE.out]; rfl, by rw [HS.out]; exact shutQ HO.out, HO.out.size⟩
    | true =>
      cases h3 : boundF st pr po s with
      | true =>
        have HE := Lib.hid (show rbindE st pr po s = 231 by simp [rbindE, h1, h2, h3])
        have HS := Lib.hid (show rbindS st pr po s = st by simp [rbindS, HE.out])
        go_enter Try.func25, Try.ntmps25
        go_wp2_with fail
        refine (rpr_r h1 _).mono ?_
        rintro e xp ⟨rfl, rfl⟩
        go_wp2_with fail
        refine (rpo_r h2 _).mono ?_
        rintro e xp ⟨rfl, rfl⟩
        go_wp2_with fail
        refine (rbound_r h3 (own_rd HO.out) HL1.out).mono ?_
        rintro e xp ⟨rfl, rfl⟩
        go_wp2
        go_ret
        exact ⟨by rw [HE.out]; rfl, by rw [HS.out]; exact shutQ HO.out, HO.out.size⟩
      | false =>
        have HE := Lib.hid (show rbindE st pr po s = 0 by simp [rbindE, h1, h2, h3])
        have HS := Lib.hid (show rbindS st pr po s = addB st ⟨pr, po⟩ s by unfold rbindS; rw [HE.out, if_pos rfl])
        go_enter Try.func25, Try.ntmps25
        go_wp2_with fail
        refine (rpr_r h1 _).mono ?_
        rintro e xp ⟨rfl, rfl⟩
        go_wp2_with fail
        refine (rpo_r h2 _).mono ?_
        rintro e xp ⟨rfl, rfl⟩
        go_wp2_with fail
        refine (rbound_r h3 (own_rd HO.out) HL1.out).mono ?_
        rintro e xp ⟨rfl, rfl⟩
        clear h1 h2 h3
        have c0 : w.cell? ⟨q, 0, none⟩ = some vB := HO.out.cell 0 rfl 0 rfl
        have rb := run_bsBd
        obtain ⟨x1, hx1⟩ : ∃ y, w.alloc (.cells #[.int .i64 pr, .int .i64 po, .int .i64 s] 80) = y := ⟨_, rfl⟩
        obtain ⟨bn, hbn⟩ : ∃ y, w.heap.size = y := ⟨_, rfl⟩
        have hO := HO.out.alloc (.cells #[.int .i64 pr, .int .i64 po, .int .i64 s] 80)
        rw [hx1, hbn] at hO
        replace HO := Lib.hid (show Own w D x1 [blkQ q vB vJ st.seed st.given, rowB vB st.B, rowJ vJ st.J, blkR bn (.cells #[.int .i64 pr, .int .i64 po, .int .i64 s] 80)] from hO)
        clear hO
        go_wp2_with ((at_builtin; refine (show _ = True → _ from fun h => of_eq_true h) ?_))
        refine eq_true ?_
        refine wpList_appO rfl (.tmp 26) (.tmp 31) 68 rfl Try.underlying68 infoBd rfl (by decide) HO.out 1 rfl rfl 3 1 1 [.int .i64 pr, .int .i64 po, .int .i64 s] rfl rfl rfl (one3 _ _ _) (by have := HL1.out; unfold maxLen; omega) (by have := HL1.out; omega) ?_
        intro vB2 x9 hO
        clear hx1 hbn
        clear c0 rb
        have e1 : rowR vB2 80 3 (st.B.length + 1) (st.B.flatMap cBd ++ [.int .i64 pr, .int .i64 po, .int .i64 s]) = rowB vB2 (st.B ++ [((⟨pr, po⟩ : Bk), s)]) := by
          show _ = rowR _ _ _ _ _
          rw [List.length_append, List.flatMap_append]; rfl
        simp only [List.set_cons_succ, List.set_cons_zero, e1] at hO
        replace HO := Lib.hid (show Own w D x9 [blkQ q vB vJ st.seed st.given, rowB vB2 (st.B ++ [(⟨pr, po⟩, s)]), rowJ vJ st.J] from hO.take 3)
        clear hO e1
        obtain ⟨a9, c9, hv9⟩ := row_slice (HO.out.row 1 rfl)
        obtain ⟨n9, hn9⟩ : ∃ n, (st.B ++ [((⟨pr, po⟩ : Bk), s)]).length = n := ⟨_, rfl⟩
        rw [hn9] at hv9
        subst hv9
        clear hn9
        have c0 : x9.cell? ⟨q, 0, none⟩ = some vB := HO.out.cell 0 rfl 0 rfl
        have f0 : x9.frozen? ⟨q, 0, none⟩ = false := HO.out.frz 0 rfl 0
        obtain ⟨xa, hxa⟩ : ∃ y, x9.setCell ⟨q, 0, none⟩ (.slice a9 n9 c9) = y := ⟨_, rfl⟩
        have hO := HO.out.setCell 0 rfl 0 (.slice a9 n9 c9)
        rw [hxa] at hO
        replace HO := Lib.hid (show Own w D xa [blkQ q (.slice a9 n9 c9) vJ (addB st ⟨pr, po⟩ s).seed (addB st ⟨pr, po⟩ s).given, rowB (.slice a9 n9 c9) (addB st ⟨pr, po⟩ s).B, rowJ vJ (addB st ⟨pr, po⟩ s).J] from hO)
        clear hO
        go_wp2
        go_ret
        exact ⟨by rw [HE.out]; rfl, by rw [HS.out]; exact shutQ HO.out, HO.out.size⟩

set_option maxRecDepth 100000 in
set_option maxHeartbeats 2000000 in
theorem rconn_o {s po th tp : Int} (h : Own w0 D w L) (i : Nat) (hi : L[i]? = some (resQ q st)) (hl1 : st.B.length ≤ 1000000) (hl2 : st.J.length ≤ 1000000) :
    Calls Try.prog 27 #[.pointer (some ⟨q, 0, none⟩), .int .i64 s, .int .i64 po, .int .i64 th, .int .i64 tp] w (OPost w0 D (L.set i (resQ q (rconnS st s po th tp))) (.int .i64 (rconnE st s po th tp)) w) := by
  refine o_one h hi fun D HO0 => ?_
  clear h hi
  obtain ⟨vB, vJ, HO0⟩ := openQ HO0
  have HL1 := Lib.hid hl1
  have HL2 := Lib.hid hl2
  clear hl1 hl2
  have HO := Lib.hid (show Own w D w [blkQ q vB vJ st.seed st.given, rowB vB st.B, rowJ vJ st.J] from HO0)
  clear HO0
  cases h1 : vpo po with
  | false =>
    have HE := Lib.hid (show rconnE st s po th tp = 230 by simp [rconnE, h1])
    have HS := Lib.hid (show rconnS st s po th tp = st by simp [rconnS, HE.out])
    go_enter Try.func27, Try.ntmps27
    go_wp2_with fail
    refine (rpo_r h1 _).mono ?_
    rintro e xp ⟨rfl, rfl⟩
    go_wp2
    go_ret
    exact ⟨by rw [HE.out]; rfl, by rw [HS.out]; exact shutQ HO.out, HO.out.size⟩
  | true =>
    cases h2 : vpo tp with
    | false =>
      have HE := Lib.hid (show rconnE st s po th tp = 230 by simp [rconnE, h1, h2])
      have HS := Lib.hid (show rconnS st s po th tp = st by simp [rconnS, HE.out])
      go_enter Try.func27, Try.ntmps27
      go_wp2_with fail
      refine (rpo_r h1 _).mono ?_
      rintro e xp ⟨rfl, rfl⟩
      go_wp2_with fail
      refine (rpo_r h2 _).mono ?_
      rintro e xp ⟨rfl, rfl⟩
      go_wp2
      go_ret
      exact ⟨by rw [HE.out]; rfl, by rw [HS.out]; exact shutQ HO.out, HO.out.size⟩
    | true =>
      cases h3 : vad th with
      | false =>
        have HE := Lib.hid (show rconnE st s po th tp = 230 by simp [rconnE, h1, h2, h3])
        have HS := Lib.hid (show rconnS st s po th tp = st by simp [rconnS, HE.out])
        go_enter Try.func27, Try.ntmps27
        go_wp2_with fail
        refine (rpo_r h1 _).mono ?_
        rintro e xp ⟨rfl, rfl⟩
        go_wp2_with fail
        refine (rpo_r h2 _).mono ?_
        rintro e xp ⟨rfl, rfl⟩
        go_wp2_with fail
        refine (rad_r h3 _).mono ?_
        rintro e xp ⟨rfl, rfl⟩
        go_wp2
        go_ret
        exact ⟨by rw [HE.out]; rfl, by rw [HS.out]; exact shutQ HO.out, HO.out.size⟩
      | true =>
        have HQ := Lib.hid (show (st.J.any (pJ po th tp) = true → rconnE st s po th tp = 231 ∧ rconnS st s po th tp = st) ∧ (st.J.any (pJ po th tp) = false → rconnE st s po th tp = 0 ∧ rconnS st s po th tp = addJ st ⟨po, th, tp⟩ s) by
          constructor <;> intro h <;> simp [rconnE, rconnS, h1, h2, h3, h])
        obtain ⟨a, cap, hvJ, hcell⟩ := row_at (c := cJd) (fun x => rfl) (HO.out.row 2 rfl) rfl
        obtain ⟨J, hJe⟩ : ∃ J, st.J = J := ⟨_, rfl⟩
        rw [hJe] at hcell HQ hvJ HL2 HO
        have HJe := Lib.hid hJe
        have HC := Lib.hid hcell
        subst hvJ
        have hl2 := HL2.out
        clear hcell hJe
        have c1 : w.cell? ⟨q, 1, none⟩ = some (.slice a J.length cap) := HO.out.cell 0 rfl 1 rfl
        go_enter Try.func27, Try.ntmps27
        go_wp2_with fail
        refine (rpo_r h1 _).mono ?_
        rintro e xp ⟨rfl, rfl⟩
        go_wp2_with fail
        refine (rpo_r h2 _).mono ?_
        rintro e xp ⟨rfl, rfl⟩
        go_wp2_with fail
        refine (rad_r h3 _).mono ?_
        rintro e xp ⟨rfl, rfl⟩
        clear h1 h2 h3
        go_wp2
        go_loop [11] (fun i => ∃ k : Nat, k ≤ J.length ∧ i = .int .i64 k ∧ (J.take k).any (pJ po th tp) = false) (fun i => J.length - (intOf i).toNat)
        case atStart => exact ⟨0, Nat.zero_le _, rfl, rfl⟩
        case round =>
          obtain ⟨k, hk, rfl, hnone⟩ := hrel
          have HN := Lib.hid hnone
          clear hnone
          by_cases hlt : k < J.length
          · obtain ⟨g, rfl, hcc⟩ := HC.out (by omega)
            have d1 : w.cell? ⟨g, k * 4 + 1, none⟩ = some (.int .i64 J[k].1.po) := hcc k hlt 1 (by decide)
            have d2 : w.cell? ⟨g, k * 4 + 2, none⟩ = some (.int .i64 J[k].1.th) := hcc k hlt 2 (by decide)
            have d3 : w.cell? ⟨g, k * 4 + 3, none⟩ = some (.int .i64 J[k].1.tp) := hcc k hlt 3 (by decide)
            have HT := Lib.hid (show (J.take (k + 1)).any (pJ po th tp) = (J[k].1.po == po && J[k].1.th == th && J[k].1.tp == tp) from any_take (p := pJ po th tp) hlt HN.out)
            have HY := Lib.hid (show (J[k].1.po == po && J[k].1.th == th && J[k].1.tp == tp) = true → J.any (pJ po th tp) = true from any_hit (p := pJ po th tp) (k := k) hlt)
            obtain ⟨y1, hy1⟩ : ∃ y, J[k].1.po = y := ⟨_, rfl⟩
            obtain ⟨y2, hy2⟩ : ∃ y, J[k].1.th = y := ⟨_, rfl⟩
            obtain ⟨y3, hy3⟩ : ∃ y, J[k].1.tp = y := ⟨_, rfl⟩
            simp only [hy1, hy2, hy3] at HT HY d1 d2 d3
            clear hcc hy1 hy2 hy3
            cases e1 : (y1 == po) with
            | false =>
              have HT2 := Lib.hid (show (J.take (k + 1)).any (pJ po th tp) = false by rw [HT.out]; simp [e1])
              clear HT HY
              go_wp2
              go_round
              case rel => exact ⟨k + 1, by omega, by go_num, HT2.out⟩
              case measure => simp [intOf]; omega
            | true =>
              cases e2 : (y2 == th) with
              | false =>
                have HT2 := Lib.hid (show (J.take (k + 1)).any (pJ po th tp) = false by rw [HT.out]; simp [e2])
                clear HT HY
                go_wp2
                go_round
                case rel => exact ⟨k + 1, by omega, by go_num, HT2.out⟩
                case measure => simp [intOf]; omega
              | true =>
                cases e3 : (y3 == tp) with
                | false =>
                  have HT2 := Lib.hid (show (J.take (k + 1)).any (pJ po th tp) = false by rw [HT.out]; simp [e3])
                  clear HT HY
                  go_wp2
                  go_round
                  case rel => exact ⟨k + 1, by omega, by go_num, HT2.out⟩
                  case measure => simp [intOf]; omega
                | true =>
                  have HR := Lib.hid (HQ.out.1 (HY.out (by simp [e1, e2, e3])))
                  clear HT HY
                  go_wp2
                  go_ret
                  exact ⟨by rw [HR.out.1]; rfl, by rw [HR.out.2]; exact shutQ (st := st) (by rw [HJe.out]; exact HO.out), HO.out.size⟩
          · obtain rfl : k = J.length := by omega
            have HR := Lib.hid (HQ.out.2 (by rw [← HN.out, List.take_length]))
            clear HN
            have c0 : w.cell? ⟨q, 1, none⟩ = some (.slice a J.length cap) := HO.out.cell 0 rfl 1 rfl
            have rb := run_bsJd
            obtain ⟨x1, hx1⟩ : ∃ y, w.alloc (.cells #[.int .i64 s, .int .i64 po, .int .i64 th, .int .i64 tp] 78) = y := ⟨_, rfl⟩
            obtain ⟨bn, hbn⟩ : ∃ y, w.heap.size = y := ⟨_, rfl⟩
            have hO := HO.out.alloc (.cells #[.int .i64 s, .int .i64 po, .int .i64 th, .int .i64 tp] 78)
            rw [hx1, hbn] at hO
            replace HO := Lib.hid (show Own w D x1 [blkQ q vB (.slice a J.length cap) st.seed st.given, rowB vB st.B, rowJ (.slice a J.length cap) J, blkR bn (.cells #[.int .i64 s, .int .i64 po, .int .i64 th, .int .i64 tp] 78)] from hO)
            clear hO
            go_wp2_with ((at_builtin; refine (show _ = True → _ from fun h => of_eq_true h) ?_))
            refine eq_true ?_
            refine wpList_appO rfl (.tmp 72) (.tmp 78) 69 rfl Try.underlying69 infoJd rfl (by decide) HO.out 2 rfl rfl 3 1 1 [.int .i64 s, .int .i64 po, .int .i64 th, .int .i64 tp] rfl rfl rfl (one4 _ _ _ _) (by have := HL2.out; unfold maxLen; omega) (by have := HL2.out; omega) ?_
            intro v9 x9 hO
            clear hx1 hbn
            clear c0 rb
            have e1 : rowR v9 78 4 (J.length + 1) (J.flatMap cJd ++ [.int .i64 s, .int .i64 po, .int .i64 th, .int .i64 tp]) = rowJ v9 (J ++ [((⟨po, th, tp⟩ : Ck), s)]) := by
              show _ = rowR _ _ _ _ _
              rw [List.length_append, List.flatMap_append]; rfl
            simp only [List.set_cons_succ, List.set_cons_zero, e1] at hO
            replace HO := Lib.hid (show Own w D x9 [blkQ q vB (.slice a J.length cap) st.seed st.given, rowB vB st.B, rowJ v9 (J ++ [((⟨po, th, tp⟩ : Ck), s)])] from hO.take 3)
            clear hO e1
            obtain ⟨a9, c9, hv9⟩ := row_slice (HO.out.row 2 rfl)
            obtain ⟨n9, hn9⟩ : ∃ n, (J ++ [((⟨po, th, tp⟩ : Ck), s)]).length = n := ⟨_, rfl⟩
            rw [hn9] at hv9
            subst hv9
            clear hn9
            have c0 : x9.cell? ⟨q, 1, none⟩ = some (.slice a J.length cap) := HO.out.cell 0 rfl 1 rfl
            have f0 : x9.frozen? ⟨q, 1, none⟩ = false := HO.out.frz 0 rfl 1
            obtain ⟨xa, hxa⟩ : ∃ y, x9.setCell ⟨q, 1, none⟩ (.slice a9 n9 c9) = y := ⟨_, rfl⟩
            have hO := HO.out.setCell 0 rfl 1 (.slice a9 n9 c9)
            rw [hxa] at hO
            replace HO := Lib.hid (show Own w D xa [blkQ q vB (.slice a9 n9 c9) st.seed st.given, rowB vB (addJ st ⟨po, th, tp⟩ s).B, rowJ (.slice a9 n9 c9) (addJ st ⟨po, th, tp⟩ s).J] from (by rw [show (addJ st ⟨po, th, tp⟩ s).J = J ++ [(⟨po, th, tp⟩, s)] from by rw [← HJe.out]; rfl]; exact hO))
            clear hO
            go_wp2
            go_ret
            exact ⟨by rw [HR.out.1]; rfl, by rw [HR.out.2]; exact shutQ HO.out, HO.out.size⟩


end Go.Proofs.Ytfipamdknanlmaa
