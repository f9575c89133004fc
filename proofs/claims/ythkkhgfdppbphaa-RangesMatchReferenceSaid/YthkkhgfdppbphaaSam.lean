/- Contracts of package ranges, ninth part: Same. -/
import Derived.Laws.StructEq
import Derived.Test.YthkkhgfdppbphaaAdd
namespace Go.Proofs.Ythkkhgfdppbphaa
open Go.RowKit Go.Sort Go.Shelf
set_option linter.unusedVariables false
attribute [local go_sem] Oper.semAt_some

theorem spS : Try.prog.stoodInHeld 24 = false := by kernel_rfl
theorem egS : Try.prog.eqGuardType Try.prog.depth 24 = false := by kernel_rfl
theorem run_eqIn (a b c d : Int) (w : World) : (Op.equalIn 10000 24 (.agg #[.int .i64 a, .int .i64 b]) (.agg #[.int .i64 c, .int .i64 d])).run Try.prog w = .ok ((a == c) && (b == d)) w := by
  have hu : Try.prog.underlying 24 = some (.struct (Try.prog.fieldsOf 24)) := by kernel_rfl
  rw [run_equalIn_agg w 9999 24 _ _ hu spS]
  have hf : ∃ f1 f2 : Field, (Try.prog.fieldsOf 24).toList = [f1, f2] ∧ f1.name ≠ "_" ∧ f2.name ≠ "_" ∧ f1.type = 3 ∧ f2.type = 3 ∧ f1.offset = 0 ∧ f2.offset = 1 := ⟨_, _, rfl, by decide, by decide, rfl, rfl, rfl, rfl⟩
  obtain ⟨f1, f2, e, n1, n2, t1, t2, o1, o2⟩ := hf
  rw [e]
  have p1 : ∀ x y : Int, (part 3 #[.int .i64 x, .int .i64 y] 0).run Try.prog w = .ok (.int .i64 x) w := fun x y => by kernel_rfl
  have p2 : ∀ x y : Int, (part 3 #[.int .i64 x, .int .i64 y] 1).run Try.prog w = .ok (.int .i64 y) w := fun x y => by kernel_rfl
  cases h1 : (a == c) <;> cases h2 : (b == d) <;> simp [Op.eqFields, n1, n2, t1, t2, o1, o2, p1, p2, run_equalIn_int w _ 3 .i64 .i64 _ _ Try.underlying3, h1, h2]
theorem run_eqS (a b c d : Int) (w : World) : (binOp .eql 24 (.agg #[.int .i64 a, .int .i64 b]) (.agg #[.int .i64 c, .int .i64 d])).run Try.prog w = .ok (.bool ((a == c) && (b == d))) w := by
  rw [run_eql_struct, run_eqIn]; rfl
theorem run_neS (a b c d : Int) (w : World) : (binOp .neq 24 (.agg #[.int .i64 a, .int .i64 b]) (.agg #[.int .i64 c, .int .i64 d])).run Try.prog w = .ok (.bool (!((a == c) && (b == d)))) w := by
  rw [run_neq_struct, run_eqIn]; rfl
attribute [local go_sem ↓] run_neS

theorem same_at {l r : List Sp} (h : l.length = r.length) (hk : ∀ i, i < l.length → spAt l i = spAt r i) : l = r := by
  apply List.ext_getElem h
  intro i h1 h2
  have := hk i h1
  rwa [spAt_eq l i h1, spAt_eq r i h2] at this
theorem diff_at {l r : List Sp} {i : Nat} (hi : i < l.length) (hj : i < r.length) (h : spAt l i ≠ spAt r i) : l ≠ r := fun e => h (by rw [e])

theorem boxesS (w : World) (v : Value) (t u : TypeId) (hv : v.cells = #[v]) : ((w.alloc (.cells #[v] t)).alloc (.cells #[.bool false] u)).cell? ⟨w.heap.size, 0, none⟩ = some v ∧
    ((w.alloc (.cells #[v] t)).alloc (.cells #[.bool false] u)).cell? ⟨w.heap.size + 1, 0, none⟩ = some (.bool false) ∧
    ((w.alloc (.cells #[v] t)).alloc (.cells #[.bool false] u)).frozen? ⟨w.heap.size + 1, 0, none⟩ = false := by
  refine ⟨by simp, by simp, ?_⟩
  simp [go_sem]

theorem same_no (l r : List Sp) (v u : Value) (w : World) (h : RdS w v l) (h2 : RdS w u r) (hn : l.length ≠ r.length) :
    Calls Try.prog 15 #[v, u] w fun e w' => e = .returned (.bool (decide (l = r))) ∧ Below w.heap.size w w' := by
  have HR := Lib.hid (show decide (l = r) = false from decide_eq_false (fun e => hn (by rw [e])))
  obtain ⟨a, cap, rfl, hcap, hlen, hp⟩ := h
  obtain ⟨ar, cr, rfl, hcr, hlr, hpr⟩ := h2
  have hn' : ((l.length : Int) != (r.length : Int)) = true := by simp; omega
  clear hp hpr
  have hb0 : Below w.heap.size w ((w.alloc (.cells #[.slice ar r.length cr] 22)).alloc (.cells #[.bool false] 4)) := ((Below.refl _ _).alloc (Nat.le_refl _) _).alloc (by simp) _
  obtain ⟨d0, d1, d2⟩ := boxesS w (.slice ar r.length cr) 22 4 rfl
  have D1 := Lib.hid d1
  clear d0 d1 d2
  go_enter Try.func15, Try.ntmps15
  go_wp2
  exact bodyPost_ret (v := .bool false) (by simp [results, Try.results15, go_sem]) rfl ⟨by rw [HR.out], hb0⟩

set_option maxRecDepth 100000 in
set_option maxHeartbeats 2000000 in
theorem same_yes (l r : List Sp) (v u : Value) (w : World) (h : RdS w v l) (h2 : RdS w u r) (hn : l.length = r.length) :
    Calls Try.prog 15 #[v, u] w fun e w' => e = .returned (.bool (decide (l = r))) ∧ Below w.heap.size w w' := by
  have hR := h
  have hRr := h2
  obtain ⟨a, cap, rfl, hcap, hlen, hp⟩ := h
  obtain ⟨ar, cr, rfl, hcr, hlr, hpr⟩ := h2
  have hn' : ((l.length : Int) != (r.length : Int)) = false := by simp; omega
  have HLE := Lib.hid hn
  have HPR := Lib.hid hpr
  clear hp hpr hn
  have hb0 : Below w.heap.size w ((w.alloc (.cells #[.slice ar r.length cr] 22)).alloc (.cells #[.bool false] 4)) := ((Below.refl _ _).alloc (Nat.le_refl _) _).alloc (by simp) _
  obtain ⟨d0, d1, d2⟩ := boxesS w (.slice ar r.length cr) 22 4 rfl
  have D0 := Lib.hid d0
  have D1 := Lib.hid d1
  have D2 := Lib.hid d2
  clear d0 d1 d2
  refine (callsIn_wide (n := 5)).1 ?_
  obtain ⟨n, hn⟩ : ∃ n : Nat, n = 5 := ⟨_, rfl⟩
  rw [← hn]
  have h1 : 1 ≤ n := by omega
  have HNN := Lib.hid hn
  clear hn
  have rf := run_fld
  refine callsIn_of_wp_marks Try.func15 rfl trivial ?_ rfl
  simp only [Try.ntmps15, List.size_toArray, List.length_cons, List.length_nil, Nat.reduceAdd, Nat.reduceSub, Array.replicate_succ, Array.replicate_zero, List.push_toArray, List.append_toArray, List.nil_append, List.cons_append]
  gi_wp2_with ((refine ⟨trivial, ?_⟩; gi_at_call 29; refine (callsIn_wide.2 (of_any _ _ _ _)).mono ?_; rintro e w1 ⟨rfl, hb⟩; have c0 := keep hb D0.out; have c1 := keep hb D1.out; have f1 := frz hb D1.out D2.out; have hb1 := below_mid hb0 hb; clear hb D0 D1 D2))
  clear rf
  refine range_first (F := Fence.wide) rfl h1 (gf := 32) (fb := #[.slice a l.length cap]) rfl trivial (enters_of Try.func32 (by kernel_rfl) rfl)
    (each_in (n - 1) (by have := HNN.out; omega) l (.slice a l.length cap) w.heap.size w1 hb1.size (fun W hb => hR.stay (hb1.trans hb))) (Below.refl _ _) hb1.size (fun _ => rfl)
    (fun pre W => ((W.cell? ⟨w.heap.size, 0, none⟩ = some (.slice ar r.length cr) ∧ W.cell? ⟨w.heap.size + 1, 0, none⟩ = some (.bool false) ∧ W.frozen? ⟨w.heap.size + 1, 0, none⟩ = false) ∧ Below w.heap.size w W) ∧ ∀ i, i < pre.length → spAt l i = spAt r i)
    (fun c _ W => ((c = .ret ∧ W.cell? ⟨w.heap.size + 1, 0, none⟩ = some (.bool false)) ∧ Below w.heap.size w W) ∧ l ≠ r)
    (OwnFrom.and (OwnFrom.and (Own.from (fun s A B row hs hg hr => ⟨cell_kept hs.1 hg hr, cell_kept hs.2.1 hg hr, (frozen_kept hs.2.1 hg hr).trans hs.2.2⟩) _) (ownFrom_below (Nat.le_refl _) hb1.size)) (ownFrom_pure _ _))
    (fun c => OwnFrom.and (OwnFrom.and (Own.from (fun s A B row hs hg hr => ⟨hs.1, cell_kept hs.2 hg hr⟩) _) (ownFrom_below (Nat.le_refl _) hb1.size)) (ownFrom_pure _ _))
    ⟨⟨⟨c0, c1, f1⟩, hb1⟩, fun i hi => by simp at hi⟩
    (fun x b => { tmps := #[.slice a l.length cap, .slice ar r.length cr, undef, .pointer (some ⟨w.heap.size, 0, none⟩), .pointer (some ⟨w.heap.size + 1, 0, none⟩), .int .i64 (x : Nat), .pointer (some ⟨b, 0, none⟩), .slice a l.length cap, .int .i64 l.length, .slice ar r.length cr, .int .i64 r.length, .bool false, .slice a l.length cap, .agg #[.slice a l.length cap], .slice a l.length cap, .func (.func 32) #[.slice a l.length cap] #[], .int .i64 (x : Nat), spV (spAt l x), undef, undef, undef, undef, undef, undef], defers := [] })
    (fun x => .cells #[.int .i64 (spAt l x).fr, .int .i64 (spAt l x).to] 24) ?assign ?body ?done ?stop
  case assign =>
    intro lp x W K hK
    gi_wp2
    exact hK
  case body =>
    rintro lp pre x b W ⟨⟨⟨g0, g1, g2⟩, hB⟩, hall⟩ ⟨rfl, hx⟩ hbx hbw -
    have hxr : pre.length < r.length := by have := HLE.out; omega
    obtain ⟨br, or, rfl, hcr2⟩ := HPR.out (by omega)
    obtain ⟨y0, y1⟩ := (hcr2 pre.length hxr).stay hB
    have q0 : W.cell? ⟨b, 0, none⟩ = some (.int .i64 (spAt l pre.length).fr) := by simp [World.cell?, hbx]
    have q1 : W.cell? ⟨b, 1, none⟩ = some (.int .i64 (spAt l pre.length).to) := by simp [World.cell?, hbx]
    have HAL := Lib.hid hall
    have HDI := Lib.hid (fun h => diff_at hx hxr h)
    have HEX := Lib.hid (show spAt l pre.length = spAt r pre.length → ∀ i, i < (pre ++ [pre.length]).length → spAt l i = spAt r i from fun h i hi => by
      simp at hi
      by_cases e : i = pre.length
      · rw [e]; exact h
      · exact hall i (by omega))
    have hpc : pre.length ≤ cr := by omega
    clear hbx hall hcr2
    generalize spAt l pre.length = x at *
    generalize spAt r pre.length = y at *
    obtain ⟨xf, xt⟩ := x
    obtain ⟨yf, yt⟩ := y
    simp only at q0 q1 y0 y1
    have eg := egS
    have hB3 : Below w.heap.size w W.drew := hB.drew
    have hK3 : KeepsOthers W W.drew := KeepsOthers.drew W
    have hBW : Below w.heap.size W W.drew := (Below.refl _ _).drew
    have g1' : W.drew.cell? ⟨w.heap.size + 1, 0, none⟩ = some (.bool false) := g1
    have g2' : W.drew.frozen? ⟨w.heap.size + 1, 0, none⟩ = false := g2
    have G1 := Lib.hid g1'
    clear g1'
    cases e1 : (xf == yf)
    case false =>
      have HT := Lib.hid (HDI.out (fun e => by cases e; simp at e1))
      gi_wp2
      gi_region
      all_goals gi_wp2
      all_goals exact ⟨hK3.trans (KeepsOthers.setCell _ _ _), ⟨⟨rfl, set_get G1.out⟩, hB3.setCell (p := ⟨w.heap.size + 1, 0, none⟩) (by simp) _⟩, HT.out⟩
    case true =>
      cases e2 : (xt == yt)
      case false =>
        have HT := Lib.hid (HDI.out (fun e => by cases e; simp at e2))
        gi_wp2
        gi_region
        all_goals gi_wp2
        all_goals exact ⟨hK3.trans (KeepsOthers.setCell _ _ _), ⟨⟨rfl, set_get G1.out⟩, hB3.setCell (p := ⟨w.heap.size + 1, 0, none⟩) (by simp) _⟩, HT.out⟩
      case true =>
        have HT := Lib.hid (HEX.out (by rw [show xf = yf by simpa using e1, show xt = yt by simpa using e2]))
        gi_wp2
        gi_region
        all_goals gi_wp2
        all_goals exact ⟨hK3, hBW, ⟨⟨g0, g1, g2⟩, hB3⟩, HT.out⟩
  case done =>
    rintro D xs W hD hxs ⟨⟨⟨g0, g1, g2⟩, hB⟩, hall⟩ hK
    rw [hxs] at hall
    have HT := Lib.hid (show decide (l = r) = true from decide_eq_true (same_at HLE.out hall))
    have hD2 : w.heap.size + 1 < D := Nat.lt_of_lt_of_le (block_lt_of_cell c1) hD
    have hK2 : (W.setCell ⟨w.heap.size + 1, 0, none⟩ (.bool true)).heap[D]? = some (.deferred (some [])) := (Below.heap_setCell _ _ _ _ (by simp; omega)).trans hK
    clear hall
    gi_wp2
    refine ⟨by simp, .inl ⟨_, _, rfl, run_takeDeferred hK2, ?_⟩⟩
    refine ⟨.bool true, ?_, by rw [HT.out], (hB.setCell (p := ⟨w.heap.size + 1, 0, none⟩) (by simp) _).trans (belowK_b (w := w) (Nat.le_refl _) _ D _ _ (by omega) hK2 rfl rfl)⟩
    have hcf : ((W.setCell ⟨w.heap.size + 1, 0, none⟩ (.bool true)).putObj D (.deferred none)).cell? ⟨w.heap.size + 1, 0, none⟩ = some (.bool true) := (World.cell?_of_block (World.putObj_heap_other (by simp; omega))).trans (set_get g1)
    simp [results, Try.results15, go_sem, hcf]
  case stop =>
    rintro D c pre W hD _ ⟨⟨⟨rfl, g1⟩, hB⟩, hy⟩ hK
    have hD2 : w.heap.size + 1 < D := Nat.lt_of_lt_of_le (block_lt_of_cell c1) hD
    have HT := Lib.hid (show decide (l = r) = false from decide_eq_false hy)
    clear hy
    gi_wp2
    refine ⟨by simp, .inl ⟨_, _, rfl, run_takeDeferred hK, ?_⟩⟩
    refine ⟨.bool false, ?_, by rw [HT.out], hB.trans (belowK_b (w := w) (Nat.le_refl _) _ D _ _ (by omega) hK rfl rfl)⟩
    have hcf : (W.putObj D (.deferred none)).cell? ⟨w.heap.size + 1, 0, none⟩ = some (.bool false) := (World.cell?_of_block (World.putObj_heap_other (by simp; omega))).trans g1
    simp [results, Try.results15, go_sem, hcf]

theorem same_any (l r : List Sp) (v u : Value) (w : World) (h : RdS w v l) (h2 : RdS w u r) :
    Calls Try.prog 15 #[v, u] w fun e w' => e = .returned (.bool (decide (l = r))) ∧ Below w.heap.size w w' := by
  by_cases hn : l.length = r.length
  · exact same_yes l r v u w h h2 hn
  · exact same_no l r v u w h h2 hn

end Go.Proofs.Ythkkhgfdppbphaa
