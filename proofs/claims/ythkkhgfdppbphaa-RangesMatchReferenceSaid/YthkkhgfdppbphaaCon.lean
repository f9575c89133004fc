/- Contracts of package ranges, fifth part: Contains. -/
import Derived.Test.YthkkhgfdppbphaaCnt
namespace Go.Proofs.Ythkkhgfdppbphaa
open Go.RowKit Go.Sort Go.Shelf
set_option linter.unusedVariables false
attribute [local go_sem] Oper.semAt_some

def conF (l : List Sp) (s : Sp) : Bool := takB l s && conL l s
theorem con_take (l : List Sp) (s : Sp) (k : Nat) (h : k < l.length) : conL (l.take (k + 1)) s = (conL (l.take k) s || holdB s (spAt l k)) := by
  unfold conL
  rw [List.take_succ_eq_append_getElem h, List.any_append, spAt_eq l k h]; simp
theorem con_some (l : List Sp) (s : Sp) (k : Nat) (h : k < l.length) (hh : holdB s (spAt l k) = true) : conL l s = true := by
  rw [spAt_eq l k h] at hh
  exact List.any_eq_true.2 ⟨l[k], List.getElem_mem _, hh⟩

/-- The span handed over, in its box, and the named result. -/
theorem boxes2 (w : World) (x y : Int) (t u : TypeId) : ((w.alloc (.cells #[.int .i64 x, .int .i64 y] t)).alloc (.cells #[.bool false] u)).cell? ⟨w.heap.size, 0, none⟩ = some (.int .i64 x) ∧
    ((w.alloc (.cells #[.int .i64 x, .int .i64 y] t)).alloc (.cells #[.bool false] u)).cell? ⟨w.heap.size, 1, none⟩ = some (.int .i64 y) ∧
    ((w.alloc (.cells #[.int .i64 x, .int .i64 y] t)).alloc (.cells #[.bool false] u)).cell? ⟨w.heap.size + 1, 0, none⟩ = some (.bool false) ∧
    ((w.alloc (.cells #[.int .i64 x, .int .i64 y] t)).alloc (.cells #[.bool false] u)).frozen? ⟨w.heap.size + 1, 0, none⟩ = false := by
  refine ⟨by simp, by simp, by simp, ?_⟩
  simp [go_sem]
theorem frz {w w' : World} {a : Addr} {v : Value} (hb : Below w.heap.size w w') (h : w.cell? a = some v) (hf : w.frozen? a = false) : w'.frozen? a = false := by
  rw [hb.frozen (block_lt_of_cell h)]; exact hf

theorem contains_no (l : List Sp) (s : Sp) (v : Value) (w : World) (h : RdS w v l) (hc : takB l s = false) :
    Calls Try.prog 21 #[v, spV s] w fun e w' => e = .returned (.bool (conF l s)) ∧ Below w.heap.size w w' := by
  have HR := Lib.hid (show conF l s = false by simp [conF, hc])
  have hR := h
  obtain ⟨a, cap, rfl, hcap, hlen, hp⟩ := h
  obtain ⟨fr, to⟩ := s
  clear hp
  obtain ⟨d0, d1, d2, d3⟩ := boxes2 w fr to 24 4
  have hb0 : Below w.heap.size w ((w.alloc (.cells #[.int .i64 fr, .int .i64 to] 24)).alloc (.cells #[.bool false] 4)) := ((Below.refl _ _).alloc (Nat.le_refl _) _).alloc (by simp) _
  have D0 := Lib.hid d0
  have D1 := Lib.hid d1
  have D2 := Lib.hid d2
  have D3 := Lib.hid d3
  clear d0 d1 d2 d3
  go_enter Try.func21, Try.ntmps21
  go_wp2_with fail
  refine (of_any _ _ _ _).mono ?_
  rintro e w1 ⟨rfl, hb⟩
  have hal := (Below.refl w1.heap.size w1).alloc (Nat.le_refl _) (.cells #[.slice a l.length cap] 45)
  have c0 := keep hal (keep hb D0.out)
  have c1 := keep hal (keep hb D1.out)
  have c2 := keep hal (keep hb D2.out)
  have f2 := frz hal (keep hb D2.out) (frz hb D2.out D3.out)
  have hb1 := below_mid (below_mid hb0 hb) hal
  clear hb hal D0 D1 D2 D3
  go_wp2_with fail
  refine (tak_r hc _ _ _ _ (hR.stay hb1)).mono ?_
  rintro e w2 ⟨rfl, hb2⟩
  have f3 := frz hb2 c2 f2
  have c3 := keep hb2 c2
  have hb3 := below_mid hb1 hb2
  clear c0 c1 c2 f2 hb2 hb1
  go_wp2
  exact bodyPost_ret (v := .bool false) (by simp [results, Try.results21, go_sem, set_get c3]) rfl ⟨by rw [HR.out], hb3.setCell (p := ⟨w.heap.size + 1, 0, none⟩) (by simp) _⟩

set_option maxRecDepth 100000 in
set_option maxHeartbeats 2000000 in
theorem contains_yes (l : List Sp) (s : Sp) (v : Value) (w : World) (h : RdS w v l) (hc : takB l s = true) :
    Calls Try.prog 21 #[v, spV s] w fun e w' => e = .returned (.bool (conF l s)) ∧ Below w.heap.size w w' := by
  have HR := Lib.hid (show conF l s = conL l s by simp [conF, hc])
  have HC := Lib.hid hc
  clear hc
  have hR := h
  obtain ⟨a, cap, rfl, hcap, hlen, hp⟩ := h
  obtain ⟨fr, to⟩ := s
  clear hp
  obtain ⟨d0, d1, d2, d3⟩ := boxes2 w fr to 24 4
  have hb0 : Below w.heap.size w ((w.alloc (.cells #[.int .i64 fr, .int .i64 to] 24)).alloc (.cells #[.bool false] 4)) := ((Below.refl _ _).alloc (Nat.le_refl _) _).alloc (by simp) _
  have D0 := Lib.hid d0
  have D1 := Lib.hid d1
  have D2 := Lib.hid d2
  have D3 := Lib.hid d3
  clear d0 d1 d2 d3
  refine (callsIn_wide (n := 5)).1 ?_
  obtain ⟨n, hn⟩ : ∃ n : Nat, n = 5 := ⟨_, rfl⟩
  rw [← hn]
  have h1 : 1 ≤ n := by omega
  have HNN := Lib.hid hn
  clear hn
  refine callsIn_of_wp_marks Try.func21 rfl trivial ?_ rfl
  simp only [Try.ntmps21, List.size_toArray, List.length_cons, List.length_nil, Nat.reduceAdd, Nat.reduceSub, Array.replicate_succ, Array.replicate_zero, List.push_toArray, List.append_toArray, List.nil_append, List.cons_append]
  gi_wp2_with (first
    | (refine ⟨trivial, ?_⟩; gi_at_call 29; refine (callsIn_wide.2 (of_any _ _ _ _)).mono ?_; rintro e w1 ⟨rfl, hb⟩; have hal := (Below.refl w1.heap.size w1).alloc (Nat.le_refl _) (.cells #[.slice a l.length cap] 45); have c0 := keep hal (keep hb D0.out); have c1 := keep hal (keep hb D1.out); have c2 := keep hal (keep hb D2.out); have f2 := frz hal (keep hb D2.out) (frz hb D2.out D3.out); have hb1 := below_mid (below_mid hb0 hb) hal; clear hb hal D0 D1 D2 D3)
    | (refine ⟨trivial, ?_⟩; gi_at_call 33; refine (callsIn_wide.2 (tak_r HC.out _ _ _ _ (hR.stay hb1))).mono ?_; rintro e w2 ⟨rfl, hb2⟩; have z0 := keep hb2 (a := ⟨w1.heap.size, 0, none⟩) (v := .slice a l.length cap) (by simp); replace f2 := frz hb2 c2 f2; replace c0 := keep hb2 c0; replace c1 := keep hb2 c1; replace c2 := keep hb2 c2; have hb3 := below_mid hb1 hb2; clear hb1 hb2))
  clear z0
  refine range_first (F := Fence.wide) rfl h1 (gf := 32) (fb := #[.slice a l.length cap]) rfl trivial (enters_of Try.func32 (by kernel_rfl) rfl)
    (each_in (n - 1) (by have := HNN.out; omega) l (.slice a l.length cap) w.heap.size w2 hb3.size (fun W hb => hR.stay (hb3.trans hb))) (Below.refl _ _) hb3.size (fun _ => rfl)
    (fun pre W => ((W.cell? ⟨w.heap.size, 0, none⟩ = some (.int .i64 fr) ∧ W.cell? ⟨w.heap.size, 1, none⟩ = some (.int .i64 to) ∧ W.cell? ⟨w.heap.size + 1, 0, none⟩ = some (.bool false) ∧ W.frozen? ⟨w.heap.size + 1, 0, none⟩ = false) ∧ Below w.heap.size w W) ∧ conL (l.take pre.length) ⟨fr, to⟩ = false)
    (fun c _ W => ((c = .ret ∧ W.cell? ⟨w.heap.size + 1, 0, none⟩ = some (.bool true)) ∧ Below w.heap.size w W) ∧ conL l ⟨fr, to⟩ = true)
    (OwnFrom.and (OwnFrom.and (Own.from (fun s A B row hs hg hr => ⟨cell_kept hs.1 hg hr, cell_kept hs.2.1 hg hr, cell_kept hs.2.2.1 hg hr, (frozen_kept hs.2.2.1 hg hr).trans hs.2.2.2⟩) _) (ownFrom_below (Nat.le_refl _) hb3.size)) (ownFrom_pure _ _))
    (fun c => OwnFrom.and (OwnFrom.and (Own.from (fun s A B row hs hg hr => ⟨hs.1, cell_kept hs.2 hg hr⟩) _) (ownFrom_below (Nat.le_refl _) hb3.size)) (ownFrom_pure _ _))
    ⟨⟨⟨c0, c1, c2, f2⟩, hb3⟩, by simp [conL]⟩
    (fun x b => { tmps := #[.slice a l.length cap, .agg #[.int .i64 fr, .int .i64 to], undef, .pointer (some ⟨w.heap.size, 0, none⟩), .pointer (some ⟨w.heap.size + 1, 0, none⟩), .pointer (some ⟨w1.heap.size, 0, none⟩), undef, .pointer (some ⟨b, 0, none⟩), .slice a l.length cap, .agg #[.slice a l.length cap], .agg #[.slice a l.length cap], .agg #[.int .i64 fr, .int .i64 to], .bool true, .bool false, .pointer (some ⟨w1.heap.size, 0, none⟩), .slice a l.length cap, .func (.func 32) #[.slice a l.length cap] #[], .int .i64 (x : Nat), spV (spAt l x), undef, undef, undef, undef, undef, undef, undef, undef, undef, undef, undef, undef], defers := [] })
    (fun x => .cells #[.int .i64 (spAt l x).fr, .int .i64 (spAt l x).to] 24) ?assign ?body ?done ?stop
  case assign =>
    intro lp x W K hK
    gi_wp2
    exact hK
  case body =>
    rintro lp pre x b W ⟨⟨⟨g0, g1, g2, gf⟩, hB⟩, hno⟩ ⟨rfl, hx⟩ hbx hbw -
    have q0 : W.cell? ⟨b, 0, none⟩ = some (.int .i64 (spAt l pre.length).fr) := by simp [World.cell?, hbx]
    have q1 : W.cell? ⟨b, 1, none⟩ = some (.int .i64 (spAt l pre.length).to) := by simp [World.cell?, hbx]
    have HS := Lib.hid (con_take l ⟨fr, to⟩ pre.length hx)
    have HY := Lib.hid (con_some l ⟨fr, to⟩ pre.length hx)
    have HN := Lib.hid hno
    have HL := Lib.hid (show (pre ++ [pre.length]).length = pre.length + 1 by simp)
    clear hbx hno
    generalize spAt l pre.length = x at *
    obtain ⟨xf, xt⟩ := x
    simp only at q0 q1
    by_cases hh1 : xf ≤ fr
    · by_cases hh2 : to ≤ xt
      · have HT := Lib.hid (HY.out (by simp [holdB, hh1, hh2]))
        gi_wp2
        refine ⟨KeepsOthers.setCell _ _ _, ⟨⟨rfl, set_get g2⟩, hB.setCell (p := ⟨w.heap.size + 1, 0, none⟩) (by simp) _⟩, HT.out⟩
      · have HT := Lib.hid (show conL (l.take (pre.length + 1)) ⟨fr, to⟩ = false by rw [HS.out, HN.out]; simp [holdB, hh2])
        gi_wp2
        exact ⟨KeepsOthers.refl _, Below.refl _ _, ⟨⟨g0, g1, g2, gf⟩, hB⟩, by rw [HL.out]; exact HT.out⟩
    · have HT := Lib.hid (show conL (l.take (pre.length + 1)) ⟨fr, to⟩ = false by rw [HS.out, HN.out]; simp [holdB, hh1])
      gi_wp2
      exact ⟨KeepsOthers.refl _, Below.refl _ _, ⟨⟨g0, g1, g2, gf⟩, hB⟩, by rw [HL.out]; exact HT.out⟩
  case done =>
    rintro D xs W hD hxs ⟨⟨⟨g0, g1, g2, gf⟩, hB⟩, hno⟩ hK
    rw [hxs, List.take_length] at hno
    have HN := Lib.hid hno
    have hD2 : w.heap.size + 1 < D := Nat.lt_of_lt_of_le (block_lt_of_cell c2) hD
    have hK2 : (W.setCell ⟨w.heap.size + 1, 0, none⟩ (.bool false)).heap[D]? = some (.deferred (some [])) := (Below.heap_setCell _ _ _ _ (by simp; omega)).trans hK
    clear hno
    gi_wp2
    refine ⟨by simp, .inl ⟨_, _, rfl, run_takeDeferred hK2, ?_⟩⟩
    refine ⟨.bool false, ?_, by rw [HR.out, HN.out], (hB.setCell (p := ⟨w.heap.size + 1, 0, none⟩) (by simp) _).trans (belowK_b (w := w) (Nat.le_refl _) _ D _ _ (by omega) hK2 rfl rfl)⟩
    have hcf : ((W.setCell ⟨w.heap.size + 1, 0, none⟩ (.bool false)).putObj D (.deferred none)).cell? ⟨w.heap.size + 1, 0, none⟩ = some (.bool false) := (World.cell?_of_block (World.putObj_heap_other (by simp; omega))).trans (set_get g2)
    simp [results, Try.results21, go_sem, hcf]
  case stop =>
    rintro D c pre W hD _ ⟨⟨⟨rfl, g2⟩, hB⟩, hy⟩ hK
    have hD2 : w.heap.size + 1 < D := Nat.lt_of_lt_of_le (block_lt_of_cell c2) hD
    have HY := Lib.hid hy
    clear hy
    gi_wp2
    refine ⟨by simp, .inl ⟨_, _, rfl, run_takeDeferred hK, ?_⟩⟩
    refine ⟨.bool true, ?_, by rw [HR.out, HY.out], hB.trans (belowK_b (w := w) (Nat.le_refl _) _ D _ _ (by omega) hK rfl rfl)⟩
    have hcf : (W.putObj D (.deferred none)).cell? ⟨w.heap.size + 1, 0, none⟩ = some (.bool true) := (World.cell?_of_block (World.putObj_heap_other (by simp; omega))).trans g2
    simp [results, Try.results21, go_sem, hcf]

theorem contains_any (l : List Sp) (s : Sp) (v : Value) (w : World) (h : RdS w v l) :
    Calls Try.prog 21 #[v, spV s] w fun e w' => e = .returned (.bool (conF l s)) ∧ Below w.heap.size w w' := by
  cases hc : takB l s
  · exact contains_no l s v w h hc
  · exact contains_yes l s v w h hc

end Go.Proofs.Ythkkhgfdppbphaa
