/- Contracts of package ports, first part: valid protocols, ports and addresses; bound, binding, Len, Lookup. -/
import Derived.Test.YtbhglemolpfnkaaGreatDoorPdat
import Derived.Test.YtbhglemolpfnkaaGreatDoorBb
set_option linter.unusedVariables false
set_option maxRecDepth 100000
set_option maxHeartbeats 32000000
namespace Go.Proofs.YtbhglemolpfnkaaGreatDoor
open Go.RowKit Go.Sort

def vpr (n : Int) : Bool := decide (n = 6) || decide (n = 17)
def vpo (n : Int) : Bool := decide (1 ≤ n) && decide (n ≤ 65535)
def vad (n : Int) : Bool := decide (0 ≤ n) && decide (n ≤ 4294967295)

theorem vpr_any (n : Int) (w : World) : Calls Tryz.prog 30 #[.int .i64 n] w fun e w' => e = .returned (.bool (vpr n)) ∧ w = w' := by
 by_cases h1 : n = 6
 ·
  subst h1
  go_enter Tryz.func30, Tryz.ntmps30
  go_wp2
  go_ret
  exact ⟨rfl, rfl⟩
 ·
  have h1' : (n == 6) = false := by simp [h1]
  go_enter Tryz.func30, Tryz.ntmps30
  go_wp2
  go_ret
  exact ⟨ret_bool (by rw [Bool.eq_iff_iff]; simp [vpr, h1]), rfl⟩
theorem vpo_any (n : Int) (w : World) : Calls Tryz.prog 43 #[.int .i64 n] w fun e w' => e = .returned (.bool (vpo n)) ∧ w = w' := by
 by_cases h1 : 1 ≤ n
 ·
  go_enter Tryz.func43, Tryz.ntmps43
  go_wp2
  go_ret
  exact ⟨ret_bool (by simp [vpo, h1]), rfl⟩
 ·
  have h1' : decide (1 ≤ n) = false := by simp [h1]
  go_enter Tryz.func43, Tryz.ntmps43
  go_wp2
  go_ret
  exact ⟨ret_bool (by simp only [vpo, h1', Bool.false_and]), rfl⟩
theorem vad_any (n : Int) (w : World) : Calls Tryz.prog 72 #[.int .i64 n] w fun e w' => e = .returned (.bool (vad n)) ∧ w = w' := by
 by_cases h1 : 0 ≤ n
 ·
  go_enter Tryz.func72, Tryz.ntmps72
  go_wp2
  go_ret
  exact ⟨ret_bool (by simp [vad, h1]), rfl⟩
 ·
  have h1' : decide (0 ≤ n) = false := by simp [h1]
  go_enter Tryz.func72, Tryz.ntmps72
  go_wp2
  go_ret
  exact ⟨ret_bool (by simp only [vad, h1', Bool.false_and]), rfl⟩
theorem new2 (w : World) (x y : Value) (t : TypeId) : (w.alloc (.cells #[x, y] t)).heap[w.heap.size]? = some (.cells #[x, y] t) := by show (w.heap.push _)[w.heap.size]? = _; simp

theorem bound_any (k : Bk) (p : Nat) (st : PSt) (F : Nat → Prop) (w : World) (h : PAt w p st F) :
  Calls Tryz.prog 32 #[.pointer (some ⟨p, 0, none⟩), encB k] w fun e w' => e = .returned (.bool (look k st.B).isSome) ∧ Below w.heap.size w w' := by
 obtain ⟨o2, o3, o4, o5, o6, FB, FC, FL, hp, hB, _⟩ := h.is
 obtain ⟨kp, kq⟩ := k
 have hb := below_one w (.cells #[.int .i64 kp, .int .i64 kq] 93)
 have hn := new2 w (.int .i64 kp) (.int .i64 kq) 93
 have c2 := cell_regrown (keep hb (show w.cell? ⟨p, 2, none⟩ = some o2 from blk_cell hp 2))
 have k0 := cell_regrown (show (w.alloc (.cells #[.int .i64 kp, .int .i64 kq] 93)).cell? ⟨w.heap.size, 0, none⟩ = some (.int .i64 kp) from blk_cell hn 0)
 have k1 := cell_regrown (show (w.alloc (.cells #[.int .i64 kp, .int .i64 kq] 93)).cell? ⟨w.heap.size, 1, none⟩ = some (.int .i64 kq) from blk_cell hn 1)
 have hl := fun q : Regrown => (TabB.look (hB.stay (hb.trans ((below_regrown (w.alloc (.cells #[.int .i64 kp, .int .i64 kq] 93)) q.d q.os).mono hb.size))) ⟨kp, kq⟩)
 generalize look ⟨kp, kq⟩ st.B = r at *
 have HB := Hi hb
 clear hb hn hB h
 go_enter Tryz.func32, Tryz.ntmps32
 go_wp2
 refine wp_region_R 12 (by kernel_rfl) (by kernel_rfl) ?_
 simp only [List.take, List.drop]
 iterate 12 (first | (refine wpR_want (by kernel_rfl) rfl rfl ?_; intro K hK; go_big_quiet_op; go_big_quiet_on) | (refine wpR_is (by kernel_rfl) rfl _ (fun w _ => rfl) ?_; simp only [Act.put, l_T, l_S, l_Z]))
 refine wpR_nil (by kernel_rfl) (by simp) ?_
 rintro w5 hb5
 simp only [exAll]
 replace HB := Hi (below_mid HB.out hb5)
 clear c2 k0 k1 hl hb5
 simp only [List.drop]
 go_wp2
 go_ret
 exact ⟨rfl, HB.out⟩

def bindOf (m : List (Bk × Int)) (s : Int) : Bk := (heldOf m s).headD ⟨0, 0⟩
theorem binding_any (s : Int) (p : Nat) (st : PSt) (F : Nat → Prop) (w : World) (h : PAt w p st F) (hlen : (heldOf st.B s).length ≤ 1000000) :
  Calls Tryz.prog 31 #[.pointer (some ⟨p, 0, none⟩), .int .i64 s] w fun e w' => e = .returned (encB (bindOf st.B s)) ∧ Below w.heap.size w w' := by
 obtain ⟨o2, o3, o4, o5, o6, FB, FC, FL, hp, hB, _⟩ := h.is
 have hb := below_one w (.cells #[.int .i64 0, .int .i64 0] 93)
 have c3 := keep hb (show w.cell? ⟨p, 3, none⟩ = some o3 from blk_cell hp 3)
 obtain ⟨v, hrow, hrun⟩ := hB.row s
 replace hrun := hrun _ hb
 have HBO := Hi (show bindOf st.B s = (heldOf st.B s).headD ⟨0, 0⟩ from rfl)
 generalize bindOf st.B s = bo at *
 cases hk : heldOf st.B s with
 | nil =>
  rw [hk] at HBO hrow
  obtain ⟨a, c, rfl⟩ := row_slice hrow
  obtain rfl := HBO.out
  clear HBO hrow hk h hB hp
  have HB := Hi hb
  clear hb
  go_enter Tryz.func31, Tryz.ntmps31
  go_wp2
  refine bodyPost_ret (v := .agg #[.int .i64 0, .int .i64 0]) (by simp [results, Tryz.results31, go_sem]) rfl ⟨rfl, ?_⟩
  exact HB.out
 | cons k t =>
  rw [hk] at HBO hrow hlen
  obtain rfl := HBO.out
  obtain ⟨g, c, rfl, hc, hcell⟩ := row_cell hrow (by simp)
  have d0 := keep hb (show w.cell? ⟨g, 0, none⟩ = some (.int .i64 bo.pr) by rw [hcell 0 (by simp)]; simp [kcB])
  have d1 := keep hb (show w.cell? ⟨g, 1, none⟩ = some (.int .i64 bo.po) by rw [hcell 1 (by simp; omega)]; simp [kcB])
  have h0 : 0 < (bo :: t).length := by simp
  have h0' : (bo :: t).length ≤ 9223372036854775807 := by omega
  generalize (bo :: t).length = n at *
  clear HBO hrow hk h hB hp hcell
  have HB := Hi hb
  clear hb
  go_enter Tryz.func31, Tryz.ntmps31
  go_wp2
  refine bodyPost_ret (v := .agg #[.int .i64 bo.pr, .int .i64 bo.po]) (by simp [results, Tryz.results31, go_sem]) rfl ⟨rfl, ?_⟩
  exact (Below.refl _ _).alloc (Nat.le_refl _) _

theorem len_any (p : Nat) (st : PSt) (F : Nat → Prop) (w : World) (h : PAt w p st F) (hl1 : st.B.length ≤ 1000000) (hl2 : st.J.length ≤ 1000000) :
  Calls Tryz.prog 28 #[.pointer (some ⟨p, 0, none⟩)] w fun e w' => e = .returned (.int .i64 ((st.B.length : Int) + st.J.length)) ∧ Below w.heap.size w w' := by
 obtain ⟨o2, o3, o4, o5, o6, FB, FC, FL, hp, hB, hC, _⟩ := h.is
 have c2 := cell_regrown (show w.cell? ⟨p, 2, none⟩ = some o2 from blk_cell hp 2)
 have c4 := cell_regrown (show w.cell? ⟨p, 4, none⟩ = some o4 from blk_cell hp 4)
 have e1 := fun q : Regrown => TabAt.len Tryz.underlying80 (hB.stay (below_regrown w q.d q.os)) 3
 have e2 := fun q : Regrown => TabAt.len Tryz.underlying84 (hC.stay (below_regrown w q.d q.os)) 3
 clear hp hB hC h
 go_enter Tryz.func28, Tryz.ntmps28
 go_wp2
 refine wp_region_R 14 (by kernel_rfl) (by kernel_rfl) ?_
 simp only [List.take, List.drop]
 iterate 14 (first | (refine wpR_want (by kernel_rfl) rfl rfl ?_; intro K hK; go_big_quiet_op; go_big_quiet_on) | (refine wpR_is (by kernel_rfl) rfl _ (fun w _ => rfl) ?_; simp only [Act.put, l_T, l_S, l_Z]))
 refine wpR_nil (by kernel_rfl) (by simp) ?_
 rintro w5 hb5
 simp only [exAll]
 have HB := Hi hb5
 clear c2 c4 e1 e2 hb5
 simp only [List.drop]
 go_wp2
 go_ret
 exact ⟨rfl, HB.out⟩
theorem len_nil (w : World) : Calls Tryz.prog 28 #[.pointer none] w fun e w' => e = .returned (.int .i64 0) ∧ Below w.heap.size w w' := by
 go_enter Tryz.func28, Tryz.ntmps28
 go_wp2
 go_ret
 exact ⟨rfl, Below.refl _ _⟩

def lookF (st : PSt) (pr po th tp : Int) : Int × Bool :=
 match (if pr = 6 then look ⟨po, th, tp⟩ st.J else none) with
 | some s => (s, true)
 | none => match look ⟨pr, po⟩ st.B with
  | none => (0, false)
  | some s => if heldOf st.J s = [] then (s, true) else (0, false)
theorem lookF_def (st : PSt) (pr po th tp : Int) : lookF st pr po th tp = match (if pr = 6 then look ⟨po, th, tp⟩ st.J else none) with
 | some s => (s, true)
 | none => match look ⟨pr, po⟩ st.B with
  | none => (0, false)
  | some s => if heldOf st.J s = [] then (s, true) else (0, false) := rfl
theorem lookup_nil (pr po th tp : Int) (w : World) : Calls Tryz.prog 13 #[.pointer none, .int .i64 pr, .int .i64 po, .int .i64 th, .int .i64 tp] w fun e w' => e = .returned (.tuple #[.int .i64 0, .bool false]) ∧ Below w.heap.size w w' := by
 go_enter Tryz.func13, Tryz.ntmps13
 go_wp2
 go_ret2
 exact ⟨rfl, Below.refl _ _⟩
theorem ret_pair {a a' : Int} {b b' : Bool} (h : (a, b) = (a', b')) : Ending.returned (.tuple #[.int .i64 a, .bool b]) = .returned (.tuple #[.int .i64 a', .bool b']) := by cases h; rfl
theorem lookup_any (pr po th tp : Int) (p : Nat) (st : PSt) (F : Nat → Prop) (w : World) (h : PAt w p st F) (hlen : ∀ s, (heldOf st.J s).length ≤ 1000000) :
  Calls Tryz.prog 13 #[.pointer (some ⟨p, 0, none⟩), .int .i64 pr, .int .i64 po, .int .i64 th, .int .i64 tp] w fun e w' => e = .returned (.tuple #[.int .i64 (lookF st pr po th tp).1, .bool (lookF st pr po th tp).2]) ∧ Below w.heap.size w w' := by
 obtain ⟨o2, o3, o4, o5, o6, FB, FC, FL, hp, hB, hC, _⟩ := h.is
 have c2 := (show w.cell? ⟨p, 2, none⟩ = some o2 from blk_cell hp 2)
 have c4 := (show w.cell? ⟨p, 4, none⟩ = some o4 from blk_cell hp 4)
 have c5 := (show w.cell? ⟨p, 5, none⟩ = some o5 from blk_cell hp 5)
 have e1 := hB.look ⟨pr, po⟩
 have e2 := hC.look ⟨po, th, tp⟩
 have HL := Hi (lookF_def st pr po th tp)
 generalize lookF st pr po th tp = res at *
 obtain ⟨r1, r2⟩ := res
 have second : ∀ (s : Int), ∃ v n c, heldOf st.J s = [] ∧ n = 0 ∧ (Instr.lookup 85 o5 (.int .i64 s) false).run Tryz.prog w = .ok (.slice v n c) w ∨ heldOf st.J s ≠ [] ∧ 0 < n ∧ n ≤ 1000000 ∧ (Instr.lookup 85 o5 (.int .i64 s) false).run Tryz.prog w = .ok (.slice v n c) w := by
  intro s
  obtain ⟨v, hrow, hrun⟩ := hC.row s
  obtain ⟨a, c, rfl⟩ := row_slice hrow
  refine ⟨a, (heldOf st.J s).length, c, ?_⟩
  by_cases h0 : heldOf st.J s = []
  ·
   exact .inl ⟨h0, by rw [h0]; rfl, hrun w (Below.refl _ _)⟩
  ·
   exact .inr ⟨h0, List.length_pos_iff.2 h0, hlen s, hrun w (Below.refl _ _)⟩
 have SEC := Hi second
 clear second hp hB hC h hlen
 by_cases h6 : pr = 6
 ·
  subst h6
  rw [if_pos rfl] at HL
  cases hlC : look ⟨po, th, tp⟩ st.J with
  | some s =>
   rw [hlC] at e2 HL
   simp only [Option.getD_some, Option.isSome_some] at e2 HL
   clear hlC e1
   go_enter Tryz.func13, Tryz.ntmps13
   go_wp2
   go_ret2
   exact ⟨ret_pair HL.out.symm, Below.refl _ _⟩
  | none =>
   rw [hlC] at e2 HL
   simp only [Option.getD_none, Option.isSome_none] at e2 HL
   clear hlC
   cases hlB : look ⟨6, po⟩ st.B with
   | none =>
    rw [hlB] at e1 HL
    simp only [Option.getD_none, Option.isSome_none] at e1 HL
    clear hlB
    go_enter Tryz.func13, Tryz.ntmps13
    go_wp2
    go_ret2
    exact ⟨ret_pair HL.out.symm, Below.refl _ _⟩
   | some s =>
    rw [hlB] at e1 HL
    simp only [Option.getD_some, Option.isSome_some] at e1 HL
    clear hlB
    obtain ⟨v, n, c, ⟨h0, rfl, hr⟩ | ⟨h0, hn, hn', hr⟩⟩ := SEC.out s
    ·
     rw [if_pos h0] at HL
     clear h0
     go_enter Tryz.func13, Tryz.ntmps13
     go_wp2
     go_ret2
     exact ⟨ret_pair HL.out.symm, Below.refl _ _⟩
    ·
     rw [if_neg h0] at HL
     clear h0
     go_enter Tryz.func13, Tryz.ntmps13
     go_wp2
     go_ret2
     exact ⟨ret_pair HL.out.symm, Below.refl _ _⟩
 ·
  have h6' : (pr == 6) = false := by simp [h6]
  rw [if_neg h6] at HL
  simp only at HL
  clear e2 h6
  cases hlB : look ⟨pr, po⟩ st.B with
  | none =>
   rw [hlB] at e1 HL
   simp only [Option.getD_none, Option.isSome_none] at e1 HL
   clear hlB
   go_enter Tryz.func13, Tryz.ntmps13
   go_wp2
   go_ret2
   exact ⟨ret_pair HL.out.symm, Below.refl _ _⟩
  | some s =>
   rw [hlB] at e1 HL
   simp only [Option.getD_some, Option.isSome_some] at e1 HL
   clear hlB
   obtain ⟨v, n, c, ⟨h0, rfl, hr⟩ | ⟨h0, hn, hn', hr⟩⟩ := SEC.out s
   ·
    rw [if_pos h0] at HL
    clear h0
    go_enter Tryz.func13, Tryz.ntmps13
    go_wp2
    go_ret2
    exact ⟨ret_pair HL.out.symm, Below.refl _ _⟩
   ·
    rw [if_neg h0] at HL
    clear h0
    go_enter Tryz.func13, Tryz.ntmps13
    go_wp2
    go_ret2
    exact ⟨ret_pair HL.out.symm, Below.refl _ _⟩

end Go.Proofs.YtbhglemolpfnkaaGreatDoor
