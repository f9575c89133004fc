/- Contracts of package route, sixth part: best. -/
import Derived.Test.YtkhhmoijjidbbaaRoute5
namespace Go.Proofs.Ytkhhmoijjidbbaa
open Go.RowKit Go.Sort Go.Shelf
set_option linter.unusedVariables false
attribute [local go_sem] Oper.semAt_some

def bstep (fs : List If) (rs : List Rt) (t : Option Nat) (x : Nat) : Option Nat :=
  match t with
  | none => some x
  | some y => if netB fs rs y < netB fs rs x then some x else some y
def bestOf (fs : List If) (rs : List Rt) {N : Nat} (l : List (Fin N)) : Option Nat := l.foldl (fun t x => bstep fs rs t x.1) none
theorem bestOf_snoc (fs : List If) (rs : List Rt) {N : Nat} (l : List (Fin N)) (x : Fin N) : bestOf fs rs (l ++ [x]) = bstep fs rs (bestOf fs rs l) x.1 := by simp [bestOf]
theorem bestOf_lt (fs : List If) (rs : List Rt) {N : Nat} (l : List (Fin N)) (y : Nat) (h : bestOf fs rs l = some y) : y < N := by
  have key : ∀ (l : List (Fin N)) (t : Option Nat), (∀ y, t = some y → y < N) → ∀ y, l.foldl (fun t x => bstep fs rs t x.1) t = some y → y < N := by
    intro l
    induction l with
    | nil => intro t ht y hy; exact ht y hy
    | cons a l ih =>
      intro t ht y hy
      refine ih (bstep fs rs t a.1) ?_ y hy
      intro z hz
      cases t with
      | none => simp [bstep] at hz; subst hz; exact a.2
      | some t0 =>
        simp only [bstep] at hz
        split at hz
        · cases hz; exact a.2
        · exact ht z hz
  exact key l none (fun y h => by cases h) y h
def topI (o : Option Nat) : Int := match o with | some i => (i : Int) | none => 0

theorem cell_set_ne (W : World) {b c o o' : Nat} (h : c ≠ b) (v : Value) : (W.setCell ⟨b, o, none⟩ v).cell? ⟨c, o', none⟩ = W.cell? ⟨c, o', none⟩ := World.cell?_of_block (Below.heap_setCell W ⟨b, o, none⟩ v c h)
theorem cell_set_eq (W : World) {b o : Nat} {u : Value} (v : Value) (h : W.cell? ⟨b, o, none⟩ = some u) : (W.setCell ⟨b, o, none⟩ v).cell? ⟨b, o, none⟩ = some v := World.cell?_setCell_same' _ _ _ (by rw [h]; rfl)
theorem frozen_stay {w w' : World} {a : Addr} {v : Value} (hb : Below w.heap.size w w') (h : w.cell? a = some v) (hf : w.frozen? a = false) : w'.frozen? a = false := by
  rw [hb.frozen (block_lt_of_cell h)]; exact hf
/-- What the two variables of best hold behind the two stores. -/
theorem best_stored (B : Nat) (W : World) (x0 x1 : Value) (f : Value) (a : Int) (b : Bool) (h0 : W.cell? ⟨B, 0, none⟩ = some f) (h1 : W.cell? ⟨B + 1, 0, none⟩ = some x0) (h2 : W.cell? ⟨B + 1 + 1, 0, none⟩ = some x1)
    (f1 : W.frozen? ⟨B + 1, 0, none⟩ = false) (f2 : W.frozen? ⟨B + 1 + 1, 0, none⟩ = false) :
    let W' := (W.setCell ⟨B + 1, 0, none⟩ (.int .i64 a)).setCell ⟨B + 1 + 1, 0, none⟩ (.bool b)
    W'.cell? ⟨B, 0, none⟩ = some f ∧ W'.cell? ⟨B + 1, 0, none⟩ = some (.int .i64 a) ∧ W'.frozen? ⟨B + 1, 0, none⟩ = false ∧ W'.cell? ⟨B + 1 + 1, 0, none⟩ = some (.bool b) ∧ W'.frozen? ⟨B + 1 + 1, 0, none⟩ = false := by
  refine ⟨?_, ?_, ?_, ?_, ?_⟩
  · rw [cell_set_ne _ (by omega), cell_set_ne _ (by omega)]; exact h0
  · rw [cell_set_ne _ (by omega)]; exact cell_set_eq _ _ h1
  · rw [World.frozen?_setCell, World.frozen?_setCell]; exact f1
  · exact cell_set_eq _ _ (by rw [cell_set_ne _ (by omega)]; exact h2)
  · rw [World.frozen?_setCell, World.frozen?_setCell]; exact f2

abbrev allV (m r t : Nat) : Value := .func (.func 37) #[] #[.pointer (some ⟨m, 0, none⟩), .pointer (some ⟨r, 0, none⟩), .pointer (some ⟨t, 0, none⟩)]
abbrev befV (r : Nat) : Value := .func (.func 28) #[] #[.pointer (some ⟨r, 0, none⟩)]

set_option maxRecDepth 100000 in
set_option maxHeartbeats 2000000 in
theorem best_any (fs : List If) (rs : List Rt) (v u : Value) (p q m r t s N : Nat) (to : Int) (hN : N = fs.length + rs.length) (hN' : N ≤ 2000) (w : World)
    (hM : ∀ W', Below w.heap.size w W' → W'.cell? ⟨m, 0, none⟩ = some (.int .i64 (N : Nat)) ∧ W'.cell? ⟨r, 0, none⟩ = some (netV p q) ∧ W'.cell? ⟨t, 0, none⟩ = some (.int .i64 to) ∧ W'.cell? ⟨p, 0, none⟩ = some v ∧ W'.cell? ⟨q, 0, none⟩ = some u ∧ RdI W' v fs ∧ RdR W' u rs)
    (hS : ∀ W', Below w.heap.size w W' → W'.cell? ⟨s, 0, none⟩ = some (netV p q)) :
    Calls Try.prog 29 #[allV m r t, befV s] w fun e w' => e = .returned (.tuple #[.int .i64 (topI (bestOf fs rs (candsTo fs rs to N N))), .bool (bestOf fs rs (candsTo fs rs to N N)).isSome]) ∧ Below w.heap.size w w' := by
  refine (callsIn_wide (n := 5)).1 ?_
  obtain ⟨n, hn⟩ : ∃ n : Nat, n = 5 := ⟨_, rfl⟩
  rw [← hn]
  have h1 : 1 ≤ n := by omega
  have HMM := Lib.hid hM
  have HSS := Lib.hid hS
  have HN := Lib.hid hN
  have HNN := Lib.hid hn
  clear hM hS hN hn
  refine callsIn_of_wp_marks Try.func29 rfl trivial ?_ rfl
  simp only [Try.ntmps29, List.size_toArray, List.length_cons, List.length_nil, Nat.reduceAdd, Nat.reduceSub, Array.replicate_succ, Array.replicate_zero, List.push_toArray, List.append_toArray, List.nil_append, List.cons_append]
  gi_wp2
  obtain ⟨W0, hW0⟩ : ∃ W0, ((w.alloc (.cells #[befV s] 63)).alloc (.cells #[.int .i64 0] 3)).alloc (.cells #[.bool false] 4) = W0 := ⟨_, rfl⟩
  have hB0 : Below w.heap.size w W0 := by rw [← hW0]; exact (((Below.refl _ w).alloc (Nat.le_refl _) _).alloc (by simp) _).alloc (by simp; omega) _
  have hsz : W0.heap.size = w.heap.size + 3 := by rw [← hW0]; simp
  have e0 : W0.cell? ⟨w.heap.size, 0, none⟩ = some (befV s) ∧ W0.cell? ⟨w.heap.size + 1, 0, none⟩ = some (.int .i64 0) ∧ W0.frozen? ⟨w.heap.size + 1, 0, none⟩ = false ∧ W0.cell? ⟨w.heap.size + 1 + 1, 0, none⟩ = some (.bool false) ∧ W0.frozen? ⟨w.heap.size + 1 + 1, 0, none⟩ = false := by
    rw [← hW0]; simp [go_sem]
  rw [hW0]
  clear hW0
  refine wpIn_rangeFunc_ownF (F := Fence.wide) rfl h1 (gf := 37) (lb := #[.pointer (some ⟨m, 0, none⟩), .pointer (some ⟨r, 0, none⟩), .pointer (some ⟨t, 0, none⟩)]) rfl trivial (enters_of Try.func37 (by kernel_rfl) rfl)
    (cand_stops (n - 1) (by have := HNN.out; omega) fs rs v u p q m r t w.heap.size N to HN.out hN' W0 (by omega) (fun W' hb => HMM.out W' (hB0.trans hb))) belowK_t (belowK_b (by omega)) (Below.refl _ _) (fun _ => rfl)
    (fun pre W => (W.cell? ⟨w.heap.size, 0, none⟩ = some (befV s) ∧ W.cell? ⟨w.heap.size + 1, 0, none⟩ = some (.int .i64 (topI (bestOf fs rs pre))) ∧ W.frozen? ⟨w.heap.size + 1, 0, none⟩ = false ∧ W.cell? ⟨w.heap.size + 1 + 1, 0, none⟩ = some (.bool (bestOf fs rs pre).isSome) ∧ W.frozen? ⟨w.heap.size + 1 + 1, 0, none⟩ = false) ∧ Below w.heap.size w W)
    (fun _ _ _ => False)
    (OwnFrom.and (Own.from (fun s A B row hs hg hr => ⟨cell_kept hs.1 hg hr, cell_kept hs.2.1 hg hr, (frozen_kept hs.2.1 hg hr).trans hs.2.2.1, cell_kept hs.2.2.2.1 hg hr, (frozen_kept hs.2.2.2.1 hg hr).trans hs.2.2.2.2⟩) _) (ownFrom_below (Nat.le_refl _) (by omega)))
    (fun _ _ _ _ _ hs _ _ => hs)
    ⟨e0, hB0⟩
    (fun x => { tmps := #[allV m r t, befV s, undef, .pointer (some ⟨w.heap.size, 0, none⟩), .int .i64 0, .bool false, .pointer (some ⟨w.heap.size + 1, 0, none⟩), .pointer (some ⟨w.heap.size + 1 + 1, 0, none⟩), .int .i64 (x.1 : Nat), allV m r t, .int .i64 (x.1 : Nat), undef, undef, undef, undef, undef, undef, undef, undef, undef, undef, undef], defers := [] }) ?assign ?body ?done ?stop
  case assign =>
    intro l x W K hK
    gi_wp2
    exact hK
  case body =>
    rintro l pre x W ⟨⟨hc0, hc1, hf1, hc2, hf2⟩, hB⟩ _
    have hlt := block_lt_of_cell hc2
    simp only at hlt
    cases hb : bestOf fs rs pre with
    | none =>
      have HP := Lib.hid (show bestOf fs rs (pre ++ [x]) = some x.1 by rw [bestOf_snoc, hb]; rfl)
      rw [hb] at hc1 hc2
      simp only [topI, Option.isSome] at hc1 hc2
      clear hb
      gi_wp2
      refine ⟨fun _ _ => trivial, ?_⟩
      gi_wp2
      refine ⟨(KeepsOthers.setCell _ _ _).trans (KeepsOthers.setCell _ _ _), ((Below.refl w.heap.size W).setCell (p := ⟨w.heap.size + 1, 0, none⟩) (by simp) _).setCell (p := ⟨w.heap.size + 1 + 1, 0, none⟩) (by simp; omega) _, ?_, (hB.setCell (p := ⟨w.heap.size + 1, 0, none⟩) (by simp) _).setCell (p := ⟨w.heap.size + 1 + 1, 0, none⟩) (by simp; omega) _⟩
      rw [HP.out]
      exact best_stored w.heap.size W _ _ _ _ _ hc0 hc1 hc2 hf1 hf2
    | some y =>
      have HP := Lib.hid (show bestOf fs rs (pre ++ [x]) = if netB fs rs y < netB fs rs x.1 then some x.1 else some y by rw [bestOf_snoc, hb]; rfl)
      have hy := bestOf_lt fs rs pre y hb
      have HPre := Lib.hid hb
      rw [hb] at hc1 hc2
      simp only [topI, Option.isSome] at hc1 hc2
      clear hb
      obtain ⟨_, _, _, g3, g4, hF, hG⟩ := HMM.out W hB
      have g5 := HSS.out W hB
      have hd : 1 ≤ n - 1 - 1 := by have := HNN.out; omega
      have B1 := Lib.hid (CallsIn.inRound l (callsIn_wide (n := n - 1 - 1 - 1).2 (before_any fs rs v u p q s x.1 y W hF hG g3 g4 g5 (by have := HN.out; omega) (by have := HN.out; omega))))
      clear g3 g4 g5 hF hG
      by_cases hlt2 : netB fs rs y < netB fs rs x.1
      · rw [show decide (netB fs rs y < netB fs rs x.1) = true from decide_eq_true hlt2] at B1
        gi_wp2_with ((refine ⟨trivial, ?_⟩; gi_at_call 28; refine B1.out.mono ?_; rintro e w1 ⟨rfl, hb1⟩; replace hf1 := frozen_stay hb1 hc1 hf1; replace hf2 := frozen_stay hb1 hc2 hf2; replace hc0 := keep hb1 hc0; replace hc1 := keep hb1 hc1; replace hc2 := keep hb1 hc2; have hB1 := below_mid hB hb1))
        refine ⟨((KeepsOthers.of_grownBy (grownBy_of_below hb1) (fun _ _ e => by cases e)).trans (KeepsOthers.setCell _ _ _)).trans (KeepsOthers.setCell _ _ _), (((hb1.mono hB.size).setCell (p := ⟨w.heap.size + 1, 0, none⟩) (by simp) _).setCell (p := ⟨w.heap.size + 1 + 1, 0, none⟩) (by simp; omega) _), ?_, (hB1.setCell (p := ⟨w.heap.size + 1, 0, none⟩) (by simp) _).setCell (p := ⟨w.heap.size + 1 + 1, 0, none⟩) (by simp; omega) _⟩
        rw [HP.out, if_pos hlt2]
        exact best_stored w.heap.size w1 _ _ _ _ _ hc0 hc1 hc2 hf1 hf2
      · rw [show decide (netB fs rs y < netB fs rs x.1) = false from decide_eq_false hlt2] at B1
        gi_wp2_with ((refine ⟨trivial, ?_⟩; gi_at_call 28; refine B1.out.mono ?_; rintro e w1 ⟨rfl, hb1⟩; replace hf1 := frozen_stay hb1 hc1 hf1; replace hf2 := frozen_stay hb1 hc2 hf2; replace hc0 := keep hb1 hc0; replace hc1 := keep hb1 hc1; replace hc2 := keep hb1 hc2; have hB1 := below_mid hB hb1))
        refine ⟨KeepsOthers.of_grownBy (grownBy_of_below hb1) (fun _ _ e => by cases e), hb1.mono hB.size, ?_, hB1⟩
        rw [HP.out, if_neg (by omega)]
        exact ⟨hc0, hc1, hf1, hc2, hf2⟩
  case done =>
    rintro D ys W hD rfl ⟨⟨hc0, hc1, hf1, hc2, hf2⟩, hB⟩ hK
    gi_wp2
    have k1 := cell_regrown hc1
    have k2 := cell_regrown hc2
    refine wpIn_region_quiet_below rfl (by kernel_rfl) (by kernel_rfl) ?_
    repeat (gi_big_quiet_step (fail))
    refine wpQuietIn_nil ?_
    rintro w3 ⟨⟨dq, osq⟩, rfl⟩
    have hb3 := below_regrown W dq osq
    generalize grow (redrawn W dq) osq = w3 at *
    have hK' : w3.heap[D]? = some (.deferred (some [])) := (hb3.block D (Array.getElem?_eq_some_iff.1 hK).1).trans hK
    clear k1 k2
    gi_wp2
    refine ⟨by simp, .inl ⟨_, _, rfl, run_takeDeferred hK', ?_⟩⟩
    exact ⟨_, results_tmp2 rfl _ _ _, rfl, (below_mid hB hb3).trans (belowK_b (w := w) (Nat.le_refl _) w3 D _ _ (by omega) hK' rfl rfl)⟩
  case stop =>
    rintro D c pre W _ _ h _
    exact h.elim

end Go.Proofs.Ytkhhmoijjidbbaa
