/- Contracts of package ranges, sixth part: Remove. -/
import Derived.RangeFuncBox
import Derived.Test.YthkkhgfdppbphaaCon
namespace Go.Proofs.Ythkkhgfdppbphaa
open Go.RowKit Go.Sort Go.Shelf
set_option linter.unusedVariables false
attribute [local go_sem] Oper.semAt_some

theorem run_mn (x y : Int) (w : World) : (Builtin.min_ #[3, 3] 3 #[.int .i64 x, .int .i64 y]).run Try.prog w = .ok (.int .i64 (min x y)) w := by
  by_cases h : y < x
  · have e : min x y = y := by omega
    rw [e]; simp [h, Builtin.min_, Builtin.min2, go_sem]
  · have e : min x y = x := by omega
    rw [e]; simp [h, Builtin.min_, Builtin.min2, go_sem]
theorem run_mx (x y : Int) (w : World) : (Builtin.max_ #[3, 3] 3 #[.int .i64 x, .int .i64 y]).run Try.prog w = .ok (.int .i64 (max x y)) w := by
  by_cases h : x < y
  · have e : max x y = y := by omega
    rw [e]; simp [h, Builtin.max_, Builtin.max2, go_sem]
  · have e : max x y = x := by omega
    rw [e]; simp [h, Builtin.max_, Builtin.max2, go_sem]
attribute [local go_sem ↓] run_mn run_mx

/-- A variable that holds a slice, whose row the call owns. -/
def OutI (ob base : Nat) (l : List Sp) (W : World) : Prop := ∃ v, W.cell? ⟨ob, 0, none⟩ = some v ∧ W.frozen? ⟨ob, 0, none⟩ = false ∧ Owns W base v l
theorem ownsRow_nocells {X Y : World} {row : Option Nat} {base : Nat} {e : TypeId} {size : Nat} {v : Value} {n : Nat} {xs : List Value} (hr : X.ownsRow base e size v n xs) (hg : X.grownBy Y row) (hrow : ∀ r, row = some r → ∃ o : Obj, X.heap[r]? = some o ∧ o.isCells = false) : Y.ownsRow base e size v n xs := by
  refine hr.kept hg ?_
  rcases hr.2 with ⟨rfl, _⟩ | ⟨g, cap, cur, rfl, _, hgb, _⟩
  · exact .inl rfl
  · refine .inr fun e' => ?_
    obtain ⟨o, ho, hc⟩ := hrow g (by simpa [Value.ownBlock] using e'.symm)
    rw [hgb] at ho; cases ho; cases hc
theorem OutI.nocells {ob base : Nat} {l : List Sp} {X Y : World} {row : Option Nat} (h : OutI ob base l X) (hg : X.grownBy Y row) (hrow : ∀ r, row = some r → ∃ o : Obj, X.heap[r]? = some o ∧ o.isCells = false) : OutI ob base l Y := by
  obtain ⟨v, h1, h2, h3⟩ := h
  exact ⟨v, cell_kept h1 hg hrow, (frozen_kept h1 hg hrow).trans h2, ownsRow_nocells h3 hg hrow⟩
/-- Behind a call that has appended to the row, and the store of what it has handed back. -/
theorem OutI.stored {ob base : Nat} {l r : List Sp} {W W1 W2 : World} {v v' : Value} (hob : ob < base) (h1 : W.cell? ⟨ob, 0, none⟩ = some v) (h2 : W.frozen? ⟨ob, 0, none⟩ = false) (h3 : Owns W base v l) (hb : Below W.heap.size W W1) (hg : W1.grownBy W2 v.ownBlock) (h4 : Owns W2 base v' r) :
    W2.cell? ⟨ob, 0, none⟩ = some v ∧ W2.frozen? ⟨ob, 0, none⟩ = false ∧ OutI ob base r (W2.setCell ⟨ob, 0, none⟩ v') ∧ KeepsOthers W (W2.setCell ⟨ob, 0, none⟩ v') ∧ (∀ B, B ≤ ob → Below B W (W2.setCell ⟨ob, 0, none⟩ v')) ∧ (∀ k, k < W.heap.size → k ≠ ob → v.ownBlock ≠ some k → (W2.setCell ⟨ob, 0, none⟩ v').heap[k]? = W.heap[k]?) := by
  have hlt : ob < W.heap.size := block_lt_of_cell h1
  have hne : some ob ≠ v.ownBlock := fun e => by
    have := (h3.lt e.symm).2; omega
  have e2 : W2.heap[ob]? = W.heap[ob]? := (hg.block ob (Nat.lt_of_lt_of_le hlt hb.size) hne).trans (hb.block ob hlt)
  have c2 : W2.cell? ⟨ob, 0, none⟩ = some v := (World.cell?_of_block (a := ⟨ob, 0, none⟩) e2).trans h1
  have f2 : W2.frozen? ⟨ob, 0, none⟩ = false := (World.frozen?_of_block (a := ⟨ob, 0, none⟩) e2).trans h2
  refine ⟨c2, f2, ⟨v', set_get c2, by rw [World.frozen?_setCell]; exact f2, ownsRow_setCell_below h4 (by simpa using hob) _⟩, ?_, fun B hB => ?_, fun k hk hko hkn => ?_⟩
  · refine ((KeepsOthers.of_grownBy (grownBy_of_below hb none) (fun _ _ e => by cases e)).trans (KeepsOthers.of_grownBy hg (fun j o e hj => ?_))).trans (KeepsOthers.setCell _ _ _)
    rcases h3.2 with ⟨e', _⟩ | ⟨g, _, cur, e', _, hcur, _⟩
    · rw [e'] at e; cases e
    · rw [e'] at e
      simp [Value.ownBlock] at e
      subst e
      have hg' := (hb.block g (Array.getElem?_eq_some_iff.1 hcur).1).trans hcur
      rw [hg'] at hj; cases hj; rfl
  · refine Below.setCell ?_ (p := ⟨ob, 0, none⟩) hB _
    refine (hb.mono (by omega)).trans (below_of hg (by have := hb.size; omega) (fun g e => ?_))
    have := (h3.lt e).2; omega
  · rw [Below.heap_setCell _ _ _ _ (by simpa using hko), hg.block k (Nat.lt_of_lt_of_le hk hb.size) (Ne.symm hkn)]
    exact hb.block k hk

def remF (l : List Sp) (s : Sp) : List Sp := if takB l s = true then remL l s else []
theorem rem_take (l : List Sp) (s : Sp) (k : Nat) (h : k < l.length) : remL (l.take (k + 1)) s = remL (l.take k) s ++ (pcs (spAt l k) s).filter neB := by
  unfold remL
  rw [List.take_succ_eq_append_getElem h, List.flatMap_append, spAt_eq l k h]; simp
theorem remL_len (l : List Sp) (s : Sp) : (remL l s).length ≤ 2 * l.length := by
  induction l with
  | nil => simp [remL]
  | cons x l ih =>
    rw [remL_cons, List.length_append, List.length_cons]
    have : ((pcs x s).filter neB).length ≤ 2 := Nat.le_trans (List.length_filter_le _ _) (by simp [pcs])
    omega

/-- What Add, Remove and Gaps hand back: a slice that reads as the list. -/
def ListPost (w : World) (r : List Sp) (e : Ending) (w' : World) : Prop := ∃ v, e = .returned v ∧ RdS w' v r ∧ Below w.heap.size w w'

theorem box1 (w : World) (x y : Int) (t : TypeId) : (w.alloc (.cells #[.int .i64 x, .int .i64 y] t)).cell? ⟨w.heap.size, 0, none⟩ = some (.int .i64 x) ∧ (w.alloc (.cells #[.int .i64 x, .int .i64 y] t)).cell? ⟨w.heap.size, 1, none⟩ = some (.int .i64 y) := ⟨by simp, by simp⟩

theorem remove_no (l : List Sp) (s : Sp) (v : Value) (w : World) (h : RdS w v l) (hc : takB l s = false) :
    Calls Try.prog 19 #[v, spV s] w (ListPost w (remF l s)) := by
  have HR := Lib.hid (show remF l s = [] by simp [remF, hc])
  have hR := h
  obtain ⟨a, cap, rfl, hcap, hlen, hp⟩ := h
  obtain ⟨fr, to⟩ := s
  clear hp
  obtain ⟨d0, d1⟩ := box1 w fr to 24
  have hb0 : Below w.heap.size w (w.alloc (.cells #[.int .i64 fr, .int .i64 to] 24)) := (Below.refl _ _).alloc (Nat.le_refl _) _
  have D0 := Lib.hid d0
  have D1 := Lib.hid d1
  clear d0 d1
  go_enter Try.func19, Try.ntmps19
  go_wp2_with fail
  refine (of_any _ _ _ _).mono ?_
  rintro e w1 ⟨rfl, hb⟩
  have hal := (Below.refl w1.heap.size w1).alloc (Nat.le_refl _) (.cells #[.slice a l.length cap] 45)
  have c0 := keep hal (keep hb D0.out)
  have c1 := keep hal (keep hb D1.out)
  have hb1 := below_mid (below_mid hb0 hb) hal
  clear hb hal D0 D1
  go_wp2_with fail
  refine (tak_r hc _ _ _ _ (hR.stay hb1)).mono ?_
  rintro e w2 ⟨rfl, hb2⟩
  go_wp2
  go_ret
  exact ⟨_, rfl, by rw [HR.out]; exact RdS_nil _, below_mid hb1 hb2⟩

set_option maxRecDepth 100000 in
set_option maxHeartbeats 4000000 in
theorem remove_yes (l : List Sp) (s : Sp) (v : Value) (w : World) (h : RdS w v l) (hll : l.length ≤ 1000) (hc : takB l s = true) :
    Calls Try.prog 19 #[v, spV s] w (ListPost w (remF l s)) := by
  have HR := Lib.hid (show remF l s = remL l s by simp [remF, hc])
  have HC := Lib.hid hc
  clear hc
  have hR := h
  obtain ⟨a, cap, rfl, hcap, hlen, hp⟩ := h
  obtain ⟨fr, to⟩ := s
  clear hp
  obtain ⟨d0, d1⟩ := box1 w fr to 24
  have hb0 : Below w.heap.size w (w.alloc (.cells #[.int .i64 fr, .int .i64 to] 24)) := (Below.refl _ _).alloc (Nat.le_refl _) _
  have D0 := Lib.hid d0
  have D1 := Lib.hid d1
  clear d0 d1
  refine (callsIn_wide (n := 5)).1 ?_
  obtain ⟨n, hn⟩ : ∃ n : Nat, n = 5 := ⟨_, rfl⟩
  rw [← hn]
  have h1 : 1 ≤ n := by omega
  have HNN := Lib.hid hn
  clear hn
  refine callsIn_of_wp_marks Try.func19 rfl trivial ?_ rfl
  simp only [Try.ntmps19, List.size_toArray, List.length_cons, List.length_nil, Nat.reduceAdd, Nat.reduceSub, Array.replicate_succ, Array.replicate_zero, List.push_toArray, List.append_toArray, List.nil_append, List.cons_append]
  gi_wp2_with (first
    | (refine ⟨trivial, ?_⟩; gi_at_call 29; refine (callsIn_wide.2 (of_any _ _ _ _)).mono ?_; rintro e w1 ⟨rfl, hb⟩; have hal := (Below.refl w1.heap.size w1).alloc (Nat.le_refl _) (.cells #[.slice a l.length cap] 45); have c0 := keep hal (keep hb D0.out); have c1 := keep hal (keep hb D1.out); have hb1 := below_mid (below_mid hb0 hb) hal; clear hb hal D0 D1)
    | (refine ⟨trivial, ?_⟩; gi_at_call 33; refine (callsIn_wide.2 (tak_r HC.out _ _ _ _ (hR.stay hb1))).mono ?_; rintro e w2 ⟨rfl, hb2⟩; have z0 := keep hb2 (a := ⟨w1.heap.size, 0, none⟩) (v := .slice a l.length cap) (by simp); replace c0 := keep hb2 c0; replace c1 := keep hb2 c1; have hb3 := below_mid hb1 hb2; clear hb1 hb2; have z1 := keep ((Below.refl _ w2).alloc (Nat.le_refl _) (.cells #[.slice none 0 0] 22)) z0))
  clear z0 z1
  obtain ⟨W0, hW0⟩ : ∃ W0, w2.alloc (.cells #[.slice none 0 0] 22) = W0 := ⟨_, rfl⟩
  have hal0 : Below w2.heap.size w2 W0 := by rw [← hW0]; exact (Below.refl _ _).alloc (Nat.le_refl _) _
  have e0 : W0.cell? ⟨w2.heap.size, 0, none⟩ = some (.slice none 0 0) ∧ W0.frozen? ⟨w2.heap.size, 0, none⟩ = false := by rw [← hW0]; simp [go_sem]
  have hsz0 : w2.heap.size < W0.heap.size := by rw [← hW0]; simp
  rw [hW0]
  clear hW0
  have hw3 : w.heap.size < w2.heap.size := block_lt_of_cell c0
  replace c0 := keep hal0 c0
  replace c1 := keep hal0 c1
  have hB0 := below_mid hb3 hal0
  have hw2 : w.heap.size ≤ w2.heap.size := hb3.size
  clear hb3 hal0
  refine range_first (F := Fence.wide) rfl h1 (gf := 32) (fb := #[.slice a l.length cap]) rfl trivial (enters_of Try.func32 (by kernel_rfl) rfl)
    (each_in (n - 1) (by have := HNN.out; omega) l (.slice a l.length cap) w.heap.size W0 hB0.size (fun W hb => hR.stay (hB0.trans hb))) (Below.refl _ _) hB0.size (fun _ => rfl)
    (fun pre W => (((W.cell? ⟨w.heap.size, 0, none⟩ = some (.int .i64 fr) ∧ W.cell? ⟨w.heap.size, 1, none⟩ = some (.int .i64 to)) ∧ OutI w2.heap.size W0.heap.size (remL (l.take pre.length) ⟨fr, to⟩) W) ∧ Below w.heap.size w W) ∧ W0.heap.size ≤ W.heap.size)
    (fun _ _ _ => False)
    (OwnFrom.and (OwnFrom.and (OwnFrom.and (Own.from (fun s A B row hs hg hr => ⟨cell_kept hs.1 hg hr, cell_kept hs.2 hg hr⟩) _) (Own.from (fun s A B row hs hg hr => hs.nocells hg hr) _)) (ownFrom_below (Nat.le_refl _) hB0.size)) (fun s A B row hs hg hr => Nat.le_trans hs hg.size))
    (fun _ _ _ _ _ hs _ _ => hs)
    ⟨⟨⟨⟨c0, c1⟩, ⟨_, e0.1, e0.2, World.ownsRow_nil _ _ _ _⟩⟩, hB0⟩, Nat.le_refl _⟩
    (fun x b => { tmps := #[.slice a l.length cap, .agg #[.int .i64 fr, .int .i64 to], undef, .pointer (some ⟨w.heap.size, 0, none⟩), .slice none 0 0, .pointer (some ⟨w1.heap.size, 0, none⟩), .pointer (some ⟨w2.heap.size, 0, none⟩), undef, .pointer (some ⟨b, 0, none⟩), undef, undef, .slice a l.length cap, .agg #[.slice a l.length cap], .agg #[.slice a l.length cap], .agg #[.int .i64 fr, .int .i64 to], .bool true, .bool false, .pointer (some ⟨w1.heap.size, 0, none⟩), .slice a l.length cap, .func (.func 32) #[.slice a l.length cap] #[], .int .i64 (x : Nat), spV (spAt l x), undef, undef, undef, undef, undef, undef, undef, undef, undef, undef, undef, undef, undef, undef, undef, undef, undef, undef, undef, undef, undef, undef], defers := [] })
    (fun x => .cells #[.int .i64 (spAt l x).fr, .int .i64 (spAt l x).to] 24) ?assign ?body ?done ?stop
  case assign =>
    intro lp x W K hK
    gi_wp2
    exact hK
  case body =>
    rintro lp pre x b W ⟨⟨⟨⟨g0, g1⟩, v0, o0, o1, o2⟩, hB⟩, hBW⟩ ⟨rfl, hx⟩ hbx hbw -
    have q0 : W.cell? ⟨b, 0, none⟩ = some (.int .i64 (spAt l pre.length).fr) := by simp [World.cell?, hbx]
    have q1 : W.cell? ⟨b, 1, none⟩ = some (.int .i64 (spAt l pre.length).to) := by simp [World.cell?, hbx]
    have HS := Lib.hid (rem_take l ⟨fr, to⟩ pre.length hx)
    have HL := Lib.hid (show (pre ++ [pre.length]).length = pre.length + 1 by simp)
    have hrl := remL_len (l.take pre.length) ⟨fr, to⟩
    have htl : (l.take pre.length).length = pre.length := by simp; omega
    rw [htl] at hrl
    clear hbx htl
    have HPC := Lib.hid (show pcs (spAt l pre.length) ⟨fr, to⟩ = [⟨(spAt l pre.length).fr, min (spAt l pre.length).to fr⟩, ⟨max (spAt l pre.length).fr to, (spAt l pre.length).to⟩] from rfl)
    generalize spAt l pre.length = x at *
    obtain ⟨xf, xt⟩ := x
    simp only at q0 q1 HPC
    generalize remL (l.take pre.length) ⟨fr, to⟩ = rk at *
    have HO2 := Lib.hid o2
    obtain ⟨av, cv, rfl⟩ := o2.slice
    clear o2
    have hA1 : Below W.heap.size W (W.alloc (.cells #[.int .i64 xf, .int .i64 (min xt fr)] 24)) := (Below.refl _ _).alloc (Nat.le_refl _) _
    have hA2 : Below W.heap.size W ((W.alloc (.cells #[.int .i64 xf, .int .i64 (min xt fr)] 24)).alloc (.cells #[.int .i64 (max xf to), .int .i64 xt] 24)) := hA1.alloc hA1.size _
    have hA3 : Below W.heap.size W (((W.alloc (.cells #[.int .i64 xf, .int .i64 (min xt fr)] 24)).alloc (.cells #[.int .i64 (max xf to), .int .i64 xt] 24)).alloc (.cells #[.int .i64 xf, .int .i64 (min xt fr), .int .i64 (max xf to), .int .i64 xt] 24)) := hA2.alloc hA2.size _
    have m0 := keep hA1 q0
    have m1 := keep hA1 q1
    have m2 := keep hA1 g1
    have m3 := keep hA2 o0
    have rb := run_bsS2
    have hd : 1 ≤ n - 1 - 1 := by have := HNN.out; omega
    have HW3 := Lib.hid (ownsRow_stay hA3 HO2.out)
    have HPS : Hid (RdS (((W.alloc (.cells #[.int .i64 xf, .int .i64 (min xt fr)] 24)).alloc (.cells #[.int .i64 (max xf to), .int .i64 xt] 24)).alloc (.cells #[.int .i64 xf, .int .i64 (min xt fr), .int .i64 (max xf to), .int .i64 xt] 24)) (.slice (some ⟨W.heap.size + 1 + 1, 0, none⟩) 2 2) [⟨xf, min xt fr⟩, ⟨max xf to, xt⟩]) := Lib.hid (RdS_block (l := [⟨xf, min xt fr⟩, ⟨max xf to, xt⟩]) (by
      have := World.alloc_heap_new ((W.alloc (.cells #[.int .i64 xf, .int .i64 (min xt fr)] 24)).alloc (.cells #[.int .i64 (max xf to), .int .i64 xt] 24)) (.cells #[.int .i64 xf, .int .i64 (min xt fr), .int .i64 (max xf to), .int .i64 xt] 24)
      simpa [spcs, spc] using this) (by simp))
    have HNE := Lib.hid (show ∀ (a' : Addr) (n' c' : Nat), Value.slice (some ⟨W.heap.size + 1 + 1, 0, none⟩) 2 2 = .slice (some a') n' c' → n' ≠ 0 → (Value.slice av rk.length cv).ownBlock ≠ some a'.block from fun a' n' c' e _ e2 => by
      cases e
      have := (HO2.out.lt e2).1
      simp only at this
      omega)
    have HA3 := Lib.hid hA3
    clear hA1 hA2 hA3
    gi_wp2_with ((refine ⟨trivial, ?_⟩; gi_at_call 34; refine (CallsIn.inRound lp (callsIn_wide.2 (with_any W0.heap.size rk [⟨xf, min xt fr⟩, ⟨max xf to, xt⟩] _ _ _ HW3.out HPS.out HNE.out (by have := HA3.out.size; omega) (by simp; omega)))).mono ?_; rintro e w5 ⟨v5, rfl, hO5, hg5, hn5⟩; obtain ⟨rn, hrn⟩ : ∃ rn, rn = rk ++ List.filter neB [⟨xf, min xt fr⟩, ⟨max xf to, xt⟩] := ⟨_, rfl⟩; rw [← hrn] at hO5; have HRN := Lib.hid hrn; clear hrn; obtain ⟨s1, s2, s3, s4, s5, s6⟩ := OutI.stored hsz0 o0 o1 HO2.out HA3.out hg5 hO5; have HO5 := Lib.hid s3; have HK5 := Lib.hid s4; have HB5 := Lib.hid s5; have HE5 := Lib.hid s6; obtain ⟨a5, c5, rfl⟩ := hO5.slice; clear hg5 hn5 hO5 s3 s4 s5 s6 rb))
    have hs0 : w.heap.size < W.heap.size := block_lt_of_cell g0
    have hown : (Value.slice av rk.length cv).ownBlock ≠ some w.heap.size := fun e => by have := (HO2.out.lt e).2; omega
    have he := HE5.out w.heap.size hs0 (by omega) hown
    refine ⟨HK5.out, HB5.out _ hw2, ⟨⟨⟨⟨(World.cell?_of_block (a := ⟨w.heap.size, 0, none⟩) he).trans g0, (World.cell?_of_block (a := ⟨w.heap.size, 1, none⟩) he).trans g1⟩, ?_⟩, hB.trans (HB5.out _ hw2)⟩, Nat.le_trans hBW (HB5.out _ hw2).size⟩⟩
    rw [HL.out, HS.out, HPC.out, ← HRN.out]
    exact HO5.out
  case done =>
    rintro D xs W hD hxs ⟨⟨⟨⟨g0, g1⟩, v0, o0, o1, o2⟩, hB⟩, hBW⟩ hK
    rw [hxs, List.take_length] at o2
    have hrl := remL_len l ⟨fr, to⟩
    have HO2 := Lib.hid o2
    obtain ⟨av, cv, rfl⟩ := o2.slice
    clear o2
    gi_wp2
    refine ⟨by simp, .inl ⟨_, _, rfl, run_takeDeferred hK, ?_⟩⟩
    refine ⟨_, results_tmp rfl _ _ _, _, rfl, ?_, hB.trans (belowK_b (w := w) (Nat.le_refl _) W D _ _ (by have := hB0.size; omega) hK rfl rfl)⟩
    rw [HR.out]
    exact Owns.rd (ownsRow_putObj HO2.out _ hK rfl) (by omega)
  case stop =>
    rintro D c pre W _ _ h _
    exact h.elim

theorem remove_any (l : List Sp) (s : Sp) (v : Value) (w : World) (h : RdS w v l) (hll : l.length ≤ 1000) : Calls Try.prog 19 #[v, spV s] w (ListPost w (remF l s)) := by
  cases hc : takB l s
  · exact remove_no l s v w h hc
  · exact remove_yes l s v w h hll hc

end Go.Proofs.Ythkkhgfdppbphaa
