/- Contracts of package ranges, fourth part: Count. -/
import Derived.Test.YthkkhgfdppbphaaEach
namespace Go.Proofs.Ythkkhgfdppbphaa
open Go.RowKit Go.Sort Go.Shelf
set_option linter.unusedVariables false
attribute [local go_sem] Oper.semAt_some

def cntF (l : List Sp) : Int := if canF (-1) l = true then cntL l else 0
theorem cnt_bd : ∀ {l : List Sp} {e : Int}, canF e l = true → e ≤ 1099511627776 → 0 ≤ cntL l ∧ cntL l ≤ 1099511627776 - e
  | [], e, _, h => by simp [cntL]; omega
  | x :: l, e, hc, h => by
    rw [canF_cons, okS_iff] at hc
    have := cnt_bd hc.2 (by omega)
    simp only [cntL]; omega
theorem can_take : ∀ {l : List Sp} {e : Int} (k : Nat), canF e l = true → canF e (l.take k) = true
  | [], _, k, _ => by simp [canF]
  | x :: l, e, 0, _ => by simp [canF]
  | x :: l, e, k + 1, hc => by
    rw [canF_cons] at hc
    rw [List.take_succ_cons, canF_cons]
    exact ⟨hc.1, can_take k hc.2⟩
theorem cnt_take (l : List Sp) (k : Nat) (h : k < l.length) : cntL (l.take (k + 1)) = cntL (l.take k) + ((spAt l k).to - (spAt l k).fr) := by
  rw [List.take_succ_eq_append_getElem h, cntL_app, spAt_eq l k h]; simp [cntL]

theorem count_no (l : List Sp) (v : Value) (w : World) (h : RdS w v l) (hc : canF (-1) l = false) :
    Calls Try.prog 25 #[v] w fun e w' => e = .returned (.int .i64 (cntF l)) ∧ Below w.heap.size w w' := by
  have HR := Lib.hid (show cntF l = 0 by simp [cntF, hc])
  have hR := h
  obtain ⟨a, cap, rfl, hcap, hlen, hp⟩ := h
  clear hp
  go_enter Try.func25, Try.ntmps25
  go_wp2_with fail
  refine (of_any _ _ _ _).mono ?_
  rintro e w1 ⟨rfl, hb⟩
  have hb1 := hb.alloc hb.size (.cells #[.slice a l.length cap] 45)
  go_wp2_with fail
  refine (can_r hc _ _ (hR.stay hb1)).mono ?_
  rintro e w2 ⟨rfl, hb2⟩
  go_wp2
  go_ret
  exact ⟨by rw [HR.out]; rfl, below_mid hb1 hb2⟩

set_option maxRecDepth 100000 in
set_option maxHeartbeats 2000000 in
theorem count_yes (l : List Sp) (v : Value) (w : World) (h : RdS w v l) (hc : canF (-1) l = true) :
    Calls Try.prog 25 #[v] w fun e w' => e = .returned (.int .i64 (cntF l)) ∧ Below w.heap.size w w' := by
  have HR := Lib.hid (show cntF l = cntL l by simp [cntF, hc])
  have HB := Lib.hid (fun k => cnt_bd (can_take k hc) (by omega))
  have HC := Lib.hid hc
  clear hc
  have hR := h
  obtain ⟨a, cap, rfl, hcap, hlen, hp⟩ := h
  clear hp
  refine (callsIn_wide (n := 5)).1 ?_
  obtain ⟨n, hn⟩ : ∃ n : Nat, n = 5 := ⟨_, rfl⟩
  rw [← hn]
  have h1 : 1 ≤ n := by omega
  have HNN := Lib.hid hn
  clear hn
  refine callsIn_of_wp_marks Try.func25 rfl trivial ?_ rfl
  simp only [Try.ntmps25, List.size_toArray, List.length_cons, List.length_nil, Nat.reduceAdd, Nat.reduceSub, Array.replicate_succ, Array.replicate_zero, List.push_toArray, List.append_toArray, List.nil_append, List.cons_append]
  gi_wp2_with (first
    | (refine ⟨trivial, ?_⟩; gi_at_call 29; refine (callsIn_wide.2 (of_any _ _ _ _)).mono ?_; rintro e w1 ⟨rfl, hb⟩; have hb1 := hb.alloc hb.size (.cells #[.slice a l.length cap] 45); clear hb)
    | (refine ⟨trivial, ?_⟩; gi_at_call 30; refine (callsIn_wide.2 (can_r HC.out _ _ (hR.stay hb1))).mono ?_; rintro e w2 ⟨rfl, hb2⟩; have c0 := keep hb2 (a := ⟨w1.heap.size, 0, none⟩) (v := .slice a l.length cap) (by simp); have c1 := keep ((Below.refl _ w2).alloc (Nat.le_refl _) (.cells #[.int .i64 0] 3)) c0))
  have hb3 := below_mid hb1 hb2
  have hsz2 : w1.heap.size < w2.heap.size := block_lt_of_cell c0
  clear c0 c1 hb1 hb2
  obtain ⟨W0, hW0⟩ : ∃ W0, w2.alloc (.cells #[.int .i64 0] 3) = W0 := ⟨_, rfl⟩
  have hB0 : Below w.heap.size w W0 := by rw [← hW0]; exact hb3.alloc hb3.size _
  have e0 : W0.cell? ⟨w2.heap.size, 0, none⟩ = some (.int .i64 0) ∧ W0.frozen? ⟨w2.heap.size, 0, none⟩ = false := by rw [← hW0]; simp [go_sem]
  have hsz3 : w2.heap.size < W0.heap.size := by rw [← hW0]; simp
  have hw2 : w.heap.size ≤ w2.heap.size := hb3.size
  rw [hW0]
  clear hW0 hb3
  refine range_first (F := Fence.wide) rfl h1 (gf := 32) (fb := #[.slice a l.length cap]) rfl trivial (enters_of Try.func32 (by kernel_rfl) rfl)
    (each_in (n - 1) (by have := HNN.out; omega) l (.slice a l.length cap) w.heap.size W0 hB0.size (fun W hb => hR.stay (hB0.trans hb))) (Below.refl _ _) hB0.size (fun _ => rfl)
    (fun pre W => (W.cell? ⟨w2.heap.size, 0, none⟩ = some (.int .i64 (cntL (l.take pre.length))) ∧ W.frozen? ⟨w2.heap.size, 0, none⟩ = false) ∧ Below w.heap.size w W)
    (fun _ _ _ => False)
    (OwnFrom.and (Own.from (fun s A B row hs hg hr => ⟨cell_kept hs.1 hg hr, (frozen_kept hs.1 hg hr).trans hs.2⟩) _) (ownFrom_below (Nat.le_refl _) hB0.size))
    (fun _ _ _ _ _ hs _ _ => hs)
    ⟨e0, hB0⟩
    (fun x b => { tmps := #[.slice a l.length cap, undef, .int .i64 0, .pointer (some ⟨w1.heap.size, 0, none⟩), .pointer (some ⟨w2.heap.size, 0, none⟩), undef, .pointer (some ⟨b, 0, none⟩), .slice a l.length cap, .agg #[.slice a l.length cap], .pointer (some ⟨w1.heap.size, 0, none⟩), .slice a l.length cap, .bool true, .bool false, .pointer (some ⟨w1.heap.size, 0, none⟩), .slice a l.length cap, .func (.func 32) #[.slice a l.length cap] #[], .int .i64 (x : Nat), spV (spAt l x), undef, undef, undef, undef, undef, undef, undef, undef], defers := [] })
    (fun x => .cells #[.int .i64 (spAt l x).fr, .int .i64 (spAt l x).to] 24) ?assign ?body ?done ?stop
  case assign =>
    intro lp x W K hK
    gi_wp2
    exact hK
  case body =>
    rintro lp pre x b W ⟨⟨hc0, hf0⟩, hB⟩ ⟨rfl, hx⟩ hbx hbw -
    have q0 : W.cell? ⟨b, 0, none⟩ = some (.int .i64 (spAt l pre.length).fr) := by simp [World.cell?, hbx]
    have q1 : W.cell? ⟨b, 1, none⟩ = some (.int .i64 (spAt l pre.length).to) := by simp [World.cell?, hbx]
    have HS := Lib.hid (cnt_take l pre.length hx)
    have hbd := HB.out (pre.length)
    have hbd2 := HB.out (pre.length + 1)
    rw [HS.out] at hbd2
    have HL := Lib.hid (show (pre ++ [pre.length]).length = pre.length + 1 by simp)
    have hxx := can_all HC.out (spAt l pre.length) (by rw [spAt_eq _ _ hx]; exact List.getElem_mem _)
    clear hbx
    generalize spAt l pre.length = x at *
    generalize cntL (l.take pre.length) = cc at *
    gi_wp2
    refine ⟨KeepsOthers.setCell _ _ _, (Below.refl w.heap.size W).setCell (p := ⟨w2.heap.size, 0, none⟩) hw2 _, ⟨?_, ?_⟩, hB.setCell (p := ⟨w2.heap.size, 0, none⟩) hw2 _⟩
    · rw [HL.out, HS.out]
      exact set_get hc0
    · rw [World.frozen?_setCell]; exact hf0
  case done =>
    rintro D xs W hD hxs ⟨⟨hc0, hf0⟩, hB⟩ hK
    rw [hxs, List.take_length] at hc0
    gi_wp2
    refine ⟨by simp, .inl ⟨_, _, rfl, run_takeDeferred hK, ?_⟩⟩
    exact ⟨_, results_tmp rfl _ _ _, by rw [HR.out]; rfl, hB.trans (belowK_b (w := w) (Nat.le_refl _) W D _ _ (by have := hB0.size; omega) hK rfl rfl)⟩
  case stop =>
    rintro D c pre W _ _ h _
    exact h.elim

theorem count_any (l : List Sp) (v : Value) (w : World) (h : RdS w v l) :
    Calls Try.prog 25 #[v] w fun e w' => e = .returned (.int .i64 (cntF l)) ∧ Below w.heap.size w w' := by
  cases hc : canF (-1) l
  · exact count_no l v w h hc
  · exact count_yes l v w h hc

end Go.Proofs.Ythkkhgfdppbphaa
