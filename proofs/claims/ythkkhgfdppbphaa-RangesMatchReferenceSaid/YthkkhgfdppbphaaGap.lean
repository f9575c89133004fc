/- Contracts of package ranges, seventh part: Gaps. -/
import Derived.WalkMore
import Derived.Scope
import Derived.Test.YthkkhgfdppbphaaRem
namespace Go.Proofs.Ythkkhgfdppbphaa
open Go.RowKit Go.Sort Go.Shelf
set_option linter.unusedVariables false
attribute [local go_sem] Oper.semAt_some

theorem grown_own {base : Nat} {l : List Sp} {W W1 W2 : World} {v : Value} (h3 : Owns W base v l) (hb : Below W.heap.size W W1) (hg : W1.grownBy W2 v.ownBlock) :
    KeepsOthers W W2 ∧ (∀ B, B ≤ base → B ≤ W.heap.size → Below B W W2) ∧ (∀ k, k < W.heap.size → v.ownBlock ≠ some k → W2.heap[k]? = W.heap[k]?) := by
  refine ⟨?_, fun B hB hW => ?_, fun k hk hkn => ?_⟩
  · refine (KeepsOthers.of_grownBy (grownBy_of_below hb none) (fun _ _ e => by cases e)).trans (KeepsOthers.of_grownBy hg (fun j o e hj => ?_))
    rcases h3.2 with ⟨e', _⟩ | ⟨g, _, cur, e', _, hcur, _⟩
    · rw [e'] at e; cases e
    · rw [e'] at e
      simp [Value.ownBlock] at e
      subst e
      have hg' := (hb.block g (Array.getElem?_eq_some_iff.1 hcur).1).trans hcur
      rw [hg'] at hj; cases hj; rfl
  · refine (hb.mono hW).trans (below_of hg (by have := hb.size; omega) (fun g e => ?_))
    have := (h3.lt e).2; omega
  · rw [hg.block k (Nat.lt_of_lt_of_le hk hb.size) (Ne.symm hkn)]
    exact hb.block k hk

theorem wpIn_scope_wide {n : Nat} {P : Program} {c : Code} {Q : Exit → Act → World → Prop} {a : Act} {w : World} (h : c.wpIn Fence.wide n P (Exit.noGoto Q) a w) : (Code.scope c).wpIn Fence.wide n P Q a w := wpIn_wide.2 (wp_scope_straight (wpIn_wide.1 h))

def gapF (l : List Sp) (s : Sp) : List Sp := if takB l s = true then gapL s s.fr l else []
theorem gapL_len (l : List Sp) (s : Sp) (at_ : Int) : (gapL s at_ l).length ≤ l.length + 1 := by
  have one : ∀ x : Sp, (oneF x).length ≤ 1 := fun x => Nat.le_trans (List.length_filter_le _ _) (by simp)
  induction l generalizing at_ with
  | nil => exact one _
  | cons x l ih =>
    unfold gapL
    split
    · have := ih at_; simp; omega
    · split
      · have := one ⟨at_, s.to⟩; simp; omega
      · have := one ⟨at_, x.fr⟩; have := ih x.to; simp; omega

/-- What the loop of Gaps keeps: the span, the variable at, the row of out, and R of the two. -/
def GapI (w : World) (ob base : Nat) (fr to : Int) (R : Int → List Sp → Prop) (W : World) : Prop :=
  ∃ at_ out, R at_ out ∧ (W.cell? ⟨w.heap.size, 0, none⟩ = some (.int .i64 fr) ∧ W.cell? ⟨w.heap.size, 1, none⟩ = some (.int .i64 to) ∧ W.cell? ⟨ob + 1, 0, none⟩ = some (.int .i64 at_) ∧ W.frozen? ⟨ob + 1, 0, none⟩ = false) ∧ OutI ob base out W ∧ Below w.heap.size w W ∧ base ≤ W.heap.size
theorem GapI.kept {w : World} {ob base : Nat} {fr to : Int} {R : Int → List Sp → Prop} {A B : World} {row : Option Nat} {n : Nat} (h : GapI w ob base fr to R A) (hn : w.heap.size ≤ n) (hg : A.grownBy B row) (hr : ∀ r, row = some r → n ≤ r ∧ ∃ o : Obj, A.heap[r]? = some o ∧ o.isCells = false) : GapI w ob base fr to R B := by
  obtain ⟨at_, out, h1, ⟨h2, h3, h4, h5⟩, h6, h7, h8⟩ := h
  have hr' : ∀ r, row = some r → ∃ o : Obj, A.heap[r]? = some o ∧ o.isCells = false := fun r e => (hr r e).2
  exact ⟨at_, out, h1, ⟨cell_kept h2 hg hr', cell_kept h3 hg hr', cell_kept h4 hg hr', (frozen_kept h4 hg hr').trans h5⟩, h6.nocells hg hr', h7.grown hg h7.size (fun k e => Nat.le_trans hn (hr k e).1), Nat.le_trans h8 hg.size⟩

theorem gaps_no (l : List Sp) (s : Sp) (v : Value) (w : World) (h : RdS w v l) (hc : takB l s = false) :
    Calls Try.prog 23 #[v, spV s] w (ListPost w (gapF l s)) := by
  have HR := Lib.hid (show gapF l s = [] by simp [gapF, hc])
  have hR := h
  obtain ⟨a, cap, rfl, hcap, hlen, hp⟩ := h
  obtain ⟨fr, to⟩ := s
  clear hp
  obtain ⟨d0, d1⟩ := box1 w fr to 24
  have hb0 : Below w.heap.size w (w.alloc (.cells #[.int .i64 fr, .int .i64 to] 24)) := (Below.refl _ _).alloc (Nat.le_refl _) _
  have D0 := Lib.hid d0
  have D1 := Lib.hid d1
  clear d0 d1
  go_enter Try.func23, Try.ntmps23
  go_wp2_with fail
  go_step3
  go_wp2_with fail
  refine (of_any _ _ _ _).mono ?_
  rintro e w1 ⟨rfl, hb⟩
  have hal := (Below.refl w1.heap.size w1).alloc (Nat.le_refl _) (.cells #[.slice a l.length cap] 45)
  have c0 := keep hal (keep hb D0.out)
  have c1 := keep hal (keep hb D1.out)
  have hb1 := below_mid (below_mid hb0 hb) hal
  clear hb hal D0 D1
  go_wp2_with fail
  refine (tak_r hc _ _ _ _ (hR.stay hb1)).mono ?_
  rintro e w2 ⟨rfl, hb2⟩
  go_wp2
  rw [Exit.noGoto_ret]
  go_ret
  exact ⟨_, rfl, by rw [HR.out]; exact RdS_nil _, below_mid hb1 hb2⟩

set_option maxRecDepth 100000 in
set_option maxHeartbeats 4000000 in
theorem gaps_yes (l : List Sp) (s : Sp) (v : Value) (w : World) (h : RdS w v l) (hll : l.length ≤ 1000) (hc : takB l s = true) :
    Calls Try.prog 23 #[v, spV s] w (ListPost w (gapF l s)) := by
  have HR := Lib.hid (show gapF l s = gapL s s.fr l by simp [gapF, hc])
  have HC := Lib.hid hc
  clear hc
  have hR := h
  obtain ⟨a, cap, rfl, hcap, hlen, hp⟩ := h
  obtain ⟨fr, to⟩ := s
  clear hp
  obtain ⟨d0, d1⟩ := box1 w fr to 24
  have hb0 : Below w.heap.size w (w.alloc (.cells #[.int .i64 fr, .int .i64 to] 24)) := (Below.refl _ _).alloc (Nat.le_refl _) _
  have D0 := Lib.hid d0
  have D1 := Lib.hid d1
  clear d0 d1
  refine (callsIn_wide (n := 5)).1 ?_
  obtain ⟨n, hn⟩ : ∃ n : Nat, n = 5 := ⟨_, rfl⟩
  rw [← hn]
  have h1 : 1 ≤ n := by omega
  have HNN := Lib.hid hn
  clear hn
  refine callsIn_of_wp_marks Try.func23 rfl trivial ?_ rfl
  simp only [Try.ntmps23, List.size_toArray, List.length_cons, List.length_nil, Nat.reduceAdd, Nat.reduceSub, Array.replicate_succ, Array.replicate_zero, List.push_toArray, List.append_toArray, List.nil_append, List.cons_append]
  gi_wp2
  refine wpIn_scope_wide ?_
  gi_wp2_with (first
    | (refine ⟨trivial, ?_⟩; gi_at_call 29; refine (callsIn_wide.2 (of_any _ _ _ _)).mono ?_; rintro e w1 ⟨rfl, hb⟩; have hal := (Below.refl w1.heap.size w1).alloc (Nat.le_refl _) (.cells #[.slice a l.length cap] 45); have c0 := keep hal (keep hb D0.out); have c1 := keep hal (keep hb D1.out); have hb1 := below_mid (below_mid hb0 hb) hal; clear hb hal D0 D1)
    | (refine ⟨trivial, ?_⟩; gi_at_call 33; refine (callsIn_wide.2 (tak_r HC.out _ _ _ _ (hR.stay hb1))).mono ?_; rintro e w2 ⟨rfl, hb2⟩; have z0 := keep hb2 (a := ⟨w1.heap.size, 0, none⟩) (v := .slice a l.length cap) (by simp); replace c0 := keep hb2 c0; replace c1 := keep hb2 c1; have hb3 := below_mid hb1 hb2; clear hb1 hb2; have hA0 := (Below.refl w2.heap.size w2).alloc (Nat.le_refl _) (.cells #[.slice none 0 0] 22); have hA1 := hA0.alloc hA0.size (.cells #[.int .i64 fr] 3); have y0 := keep hA0 c0; have z1 := keep hA1 z0))
  clear z1 y0 hA0 hA1
  obtain ⟨W0, hW0⟩ : ∃ W0, (w2.alloc (.cells #[.slice none 0 0] 22)).alloc (.cells #[.int .i64 fr] 3) = W0 := ⟨_, rfl⟩
  have hal0 : Below w2.heap.size w2 W0 := by rw [← hW0]; exact ((Below.refl _ _).alloc (Nat.le_refl _) _).alloc (by simp) _
  have e0 : W0.cell? ⟨w2.heap.size, 0, none⟩ = some (.slice none 0 0) ∧ W0.frozen? ⟨w2.heap.size, 0, none⟩ = false ∧ W0.cell? ⟨w2.heap.size + 1, 0, none⟩ = some (.int .i64 fr) ∧ W0.frozen? ⟨w2.heap.size + 1, 0, none⟩ = false := by rw [← hW0]; simp [go_sem]
  have hsz0 : w2.heap.size + 1 < W0.heap.size := by rw [← hW0]; simp
  rw [hW0]
  clear hW0
  have hw3 : w.heap.size < w2.heap.size := block_lt_of_cell c0
  replace c0 := keep hal0 c0
  replace c1 := keep hal0 c1
  have hB0 := below_mid hb3 hal0
  have hw2 : w.heap.size ≤ w2.heap.size := hb3.size
  have zc := keep hal0 z0
  clear hb3 hal0 z0
  refine wpIn_label ?_
  gi_wp2
  clear zc
  refine range_first (F := Fence.wide) rfl h1 (gf := 32) (fb := #[.slice a l.length cap]) rfl trivial (enters_of Try.func32 (by kernel_rfl) rfl)
    (each_in (n - 1) (by have := HNN.out; omega) l (.slice a l.length cap) w.heap.size W0 hB0.size (fun W hb => hR.stay (hB0.trans hb))) (Below.refl _ _) hB0.size (fun _ => rfl)
    (fun pre W => GapI w w2.heap.size W0.heap.size fr to (fun at_ out => out ++ gapL ⟨fr, to⟩ at_ (l.drop pre.length) = gapL ⟨fr, to⟩ fr l ∧ out.length ≤ pre.length) W)
    (fun c _ W => c = .exit 0 ∧ GapI w w2.heap.size W0.heap.size fr to (fun at_ out => out ++ oneF ⟨at_, to⟩ = gapL ⟨fr, to⟩ fr l ∧ out.length ≤ l.length) W)
    (fun s A B row hs hg hr => hs.kept hB0.size hg hr)
    (fun c s A B row hs hg hr => ⟨hs.1, hs.2.kept hB0.size hg hr⟩)
    ⟨fr, [], ⟨rfl, Nat.zero_le _⟩, ⟨c0, c1, e0.2.2.1, e0.2.2.2⟩, ⟨_, e0.1, e0.2.1, World.ownsRow_nil _ _ _ _⟩, hB0, Nat.le_refl _⟩
    (fun x b => { tmps := #[.slice a l.length cap, .agg #[.int .i64 fr, .int .i64 to], undef, .pointer (some ⟨w.heap.size, 0, none⟩), .slice none 0 0, .pointer (some ⟨w1.heap.size, 0, none⟩), .pointer (some ⟨w2.heap.size, 0, none⟩), .pointer (some ⟨w2.heap.size + 1, 0, none⟩), undef, .pointer (some ⟨b, 0, none⟩), .slice a l.length cap, .agg #[.slice a l.length cap], .agg #[.slice a l.length cap], .agg #[.int .i64 fr, .int .i64 to], .bool true, .bool false, .pointer (some ⟨w.heap.size, 0, none⟩), .int .i64 fr, .pointer (some ⟨w1.heap.size, 0, none⟩), .slice a l.length cap, .func (.func 32) #[.slice a l.length cap] #[], .int .i64 (x : Nat), spV (spAt l x), undef, undef, undef, undef, undef, undef, undef, undef, undef, undef, undef, undef, undef, undef, undef, undef, undef, undef, undef, undef, undef, undef, undef, undef, undef, undef, undef], defers := [] })
    (fun x => .cells #[.int .i64 (spAt l x).fr, .int .i64 (spAt l x).to] 24) ?assign ?body ?done ?stop
  case assign =>
    intro lp x W K hK
    gi_wp2
    exact hK
  case body =>
    rintro lp pre x b W ⟨at_, out, ⟨heq, hol⟩, ⟨g0, g1, g2, g3⟩, ⟨v0, o0, o1, o2⟩, hB, hBW⟩ ⟨rfl, hx⟩ hbx hbw ⟨Wp, ⟨atp, outp, -, -, ⟨vp, p0, -, p2⟩, -, -⟩, hWp, hcp⟩
    have hvp : vp = v0 := Option.some.inj ((hcp _ _ p0).symm.trans o0)
    subst hvp
    have hbo : vp.ownBlock ≠ some b := fun e => by have := (p2.lt e).1; omega
    clear p0 p2 hcp hWp outp atp
    have q0 : W.cell? ⟨b, 0, none⟩ = some (.int .i64 (spAt l pre.length).fr) := by simp [World.cell?, hbx]
    have q1 : W.cell? ⟨b, 1, none⟩ = some (.int .i64 (spAt l pre.length).to) := by simp [World.cell?, hbx]
    have HL := Lib.hid (show (pre ++ [pre.length]).length = pre.length + 1 by simp)
    rw [drop_at l pre.length hx] at heq
    have HEQ := Lib.hid heq
    have HG := Lib.hid (show gapL ⟨fr, to⟩ at_ (spAt l pre.length :: l.drop (pre.length + 1)) = if (spAt l pre.length).to ≤ at_ then gapL ⟨fr, to⟩ at_ (l.drop (pre.length + 1)) else if to ≤ (spAt l pre.length).fr then oneF ⟨at_, to⟩ else oneF ⟨at_, (spAt l pre.length).fr⟩ ++ gapL ⟨fr, to⟩ (spAt l pre.length).to (l.drop (pre.length + 1)) from rfl)
    clear hbx heq
    generalize spAt l pre.length = x at *
    obtain ⟨xf, xt⟩ := x
    simp only at q0 q1 HG
    by_cases k1 : xt ≤ at_
    · have HE2 := Lib.hid (show out ++ gapL ⟨fr, to⟩ at_ (l.drop (pre.length + 1)) = gapL ⟨fr, to⟩ fr l by rw [← HEQ.out, HG.out, if_pos k1])
      gi_wp2
      exact ⟨KeepsOthers.refl _, Below.refl _ _, at_, out, ⟨by rw [HL.out]; exact HE2.out, by rw [HL.out]; omega⟩, ⟨g0, g1, g2, g3⟩, ⟨_, o0, o1, o2⟩, hB, hBW⟩
    · by_cases k2 : to ≤ xf
      · have HE2 := Lib.hid (show out ++ oneF ⟨at_, to⟩ = gapL ⟨fr, to⟩ fr l by rw [← HEQ.out, HG.out, if_neg k1, if_pos k2])
        gi_wp2
        exact ⟨KeepsOthers.refl _, rfl, at_, out, ⟨HE2.out, by omega⟩, ⟨g0, g1, g2, g3⟩, ⟨_, o0, o1, o2⟩, hB, hBW⟩
      · have HE2 := Lib.hid (show (out ++ List.filter neB [⟨at_, xf⟩]) ++ gapL ⟨fr, to⟩ xt (l.drop (pre.length + 1)) = gapL ⟨fr, to⟩ fr l by rw [← HEQ.out, HG.out, if_neg k1, if_neg k2, List.append_assoc]; rfl)
        have hpw : Below W.heap.size W (W.alloc (.cells #[.int .i64 at_, .int .i64 xf] 24)) := (Below.refl _ _).alloc (Nat.le_refl _) _
        have HW3 := Lib.hid (ownsRow_stay hpw o2)
        have HO2 := Lib.hid o2
        have HBO := Lib.hid hbo
        obtain ⟨av, cv, rfl⟩ := o2.slice
        clear o2 hbo
        have rb := run_bsS1
        have hd : 1 ≤ n - 1 - 1 := by have := HNN.out; omega
        have HNE := Lib.hid (show ∀ (a' : Addr) (n' c' : Nat), Value.slice (some ⟨W.heap.size, 0, none⟩) 1 1 = .slice (some a') n' c' → n' ≠ 0 → (Value.slice av out.length cv).ownBlock ≠ some a'.block from fun a' n' c' e _ e2 => by
          cases e
          have := (HO2.out.lt e2).1
          simp only at this
          omega)
        have HA3 := Lib.hid hpw
        have hbl : b < W.heap.size := block_lt_of_cell q0
        have hfl : (List.filter neB [(⟨at_, xf⟩ : Sp)]).length ≤ 1 := Nat.le_trans (List.length_filter_le _ _) (by simp)
        clear hpw
        gi_wp2_with ((refine ⟨trivial, ?_⟩; gi_at_call 34; refine (CallsIn.inRound lp (callsIn_wide.2 (with_any W0.heap.size out [⟨at_, xf⟩] _ _ _ HW3.out (RdS_one W ⟨at_, xf⟩) HNE.out (by have := HA3.out.size; omega) (by simp; omega)))).mono ?_; rintro e w5 ⟨v5, rfl, hO5, hg5, hn5⟩; obtain ⟨rn, hrn⟩ : ∃ rn, rn = out ++ List.filter neB [⟨at_, xf⟩] := ⟨_, rfl⟩; rw [← hrn] at hO5 HE2; have hrnl : rn.length ≤ out.length + 1 := (by rw [hrn, List.length_append]; omega); clear hrn; obtain ⟨s1, s2, s3, s4, s5, s6⟩ := OutI.stored (by omega) o0 o1 HO2.out HA3.out hg5 hO5; obtain ⟨a5, c5, rfl⟩ := hO5.slice; have e6 := s6 b hbl (by omega) HBO.out; have m1 := (World.cell?_of_block (a := ⟨b, 1, none⟩) e6).trans q1; have e7 := s6 (w2.heap.size + 1) (block_lt_of_cell g2) (by omega) (fun e => by have := (HO2.out.lt e).2; omega); have m2 := (World.cell?_of_block (a := ⟨w2.heap.size + 1, 0, none⟩) e7).trans g2; have m3 := (World.frozen?_of_block (a := ⟨w2.heap.size + 1, 0, none⟩) e7).trans g3; have e8 := s6 w.heap.size (block_lt_of_cell g0) (by omega) (fun e => by have := (HO2.out.lt e).2; omega); have HO5 := Lib.hid s3; have HK5 := Lib.hid s4; have HB5 := Lib.hid s5; have HE8 := Lib.hid e8; clear hg5 hn5 hO5 s3 s4 s5 s6 rb e6 e7 e8))
        refine ⟨HK5.out.trans (KeepsOthers.setCell _ _ _), (HB5.out _ hw2).setCell (p := ⟨w2.heap.size + 1, 0, none⟩) (by simp; omega) _, xt, rn, ⟨by rw [HL.out]; exact HE2.out, by rw [HL.out]; omega⟩, ⟨?_, ?_, set_get m2, by rw [World.frozen?_setCell]; exact m3⟩, ?_, (hB.trans (HB5.out _ hw2)).setCell (p := ⟨w2.heap.size + 1, 0, none⟩) (by simp; omega) _, ?_⟩
        · exact ((World.cell?_of_block (a := ⟨w.heap.size, 0, none⟩) ((Below.heap_setCell _ _ _ _ (by simp; omega)).trans HE8.out))).trans g0
        · exact ((World.cell?_of_block (a := ⟨w.heap.size, 1, none⟩) ((Below.heap_setCell _ _ _ _ (by simp; omega)).trans HE8.out))).trans g1
        · obtain ⟨vv, u1, u2, u3⟩ := HO5.out
          exact ⟨vv, (World.cell?_of_block (a := ⟨w2.heap.size, 0, none⟩) (Below.heap_setCell _ _ _ _ (by simp))).trans u1, by rw [World.frozen?_setCell]; exact u2, ownsRow_setCell_below u3 (by simpa using hsz0) _⟩
        · have := (HB5.out _ hw2).size
          simp [World.setCell] at this ⊢
          omega
  case done =>
    rintro D xs W hD hxs ⟨at_, out, ⟨heq, hol⟩, ⟨g0, g1, g2, g3⟩, ⟨v0, o0, o1, o2⟩, hB, hBW⟩ hK
    rw [hxs, List.drop_length] at heq
    rw [hxs] at hol
    change out ++ List.filter neB [⟨at_, to⟩] = _ at heq
    have hgt : (⟨at_, to⟩ : Sp).fr = at_ := rfl
    clear hgt
    have hpw : Below W.heap.size W (W.alloc (.cells #[.int .i64 at_, .int .i64 to] 24)) := (Below.refl _ _).alloc (Nat.le_refl _) _
    have HW3 := Lib.hid (ownsRow_stay hpw o2)
    have HO2 := Lib.hid o2
    obtain ⟨av, cv, rfl⟩ := o2.slice
    clear o2
    have rb := run_bsS1
    have hd : 1 ≤ n - 1 := by have := HNN.out; omega
    have HNE := Lib.hid (show ∀ (a' : Addr) (n' c' : Nat), Value.slice (some ⟨W.heap.size, 0, none⟩) 1 1 = .slice (some a') n' c' → n' ≠ 0 → (Value.slice av out.length cv).ownBlock ≠ some a'.block from fun a' n' c' e _ e2 => by
      cases e
      have := (HO2.out.lt e2).1
      simp only at this
      omega)
    have HA3 := Lib.hid hpw
    have HEQ := Lib.hid heq
    clear hpw heq
    gi_wp2_with ((refine ⟨trivial, ?_⟩; gi_at_call 34; refine (callsIn_wide.2 (with_any W0.heap.size out [⟨at_, to⟩] _ _ _ HW3.out (RdS_one W ⟨at_, to⟩) HNE.out (by have := HA3.out.size; omega) (by simp; omega))).mono ?_; rintro e w5 ⟨v5, rfl, hO5, hg5, hn5⟩; obtain ⟨rn, hrn⟩ : ∃ rn, rn = out ++ List.filter neB [⟨at_, to⟩] := ⟨_, rfl⟩; rw [← hrn] at hO5; have HRN := Lib.hid (hrn.trans HEQ.out); clear hrn; obtain ⟨t1, t2, t3⟩ := grown_own HO2.out HA3.out hg5; have HT1 := Lib.hid t1; have HT2 := Lib.hid t2; have HO5 := Lib.hid hO5; obtain ⟨a5, c5, rfl⟩ := hO5.slice; clear hg5 hn5 hO5 t1 t2 t3 rb))
    have hK5 := HT1.out.same D _ hK rfl
    have hgl := gapL_len l ⟨fr, to⟩ fr
    refine ⟨by simp, .inl ⟨_, _, rfl, run_takeDeferred hK5, ?_⟩⟩
    refine ⟨_, results_tmp rfl _ _ _, _, rfl, ?_, (hB.trans (HT2.out w.heap.size (by omega) (by omega))).trans (belowK_b (w := w) (Nat.le_refl _) w5 D _ _ (by have := hB0.size; omega) hK5 rfl rfl)⟩
    rw [HR.out, ← HRN.out]
    exact Owns.rd (ownsRow_putObj HO5.out _ hK5 rfl) (by rw [HRN.out]; omega)
  case stop =>
    rintro D c pre W hD _ ⟨rfl, at_, out, ⟨heq, hol⟩, ⟨g0, g1, g2, g3⟩, ⟨v0, o0, o1, o2⟩, hB, hBW⟩ hK
    change out ++ List.filter neB [⟨at_, to⟩] = _ at heq
    have hgt : (⟨at_, to⟩ : Sp).fr = at_ := rfl
    clear hgt
    have hpw : Below W.heap.size W (W.alloc (.cells #[.int .i64 at_, .int .i64 to] 24)) := (Below.refl _ _).alloc (Nat.le_refl _) _
    have HW3 := Lib.hid (ownsRow_stay hpw o2)
    have HO2 := Lib.hid o2
    obtain ⟨av, cv, rfl⟩ := o2.slice
    clear o2
    have rb := run_bsS1
    have hd : 1 ≤ n - 1 := by have := HNN.out; omega
    have HNE := Lib.hid (show ∀ (a' : Addr) (n' c' : Nat), Value.slice (some ⟨W.heap.size, 0, none⟩) 1 1 = .slice (some a') n' c' → n' ≠ 0 → (Value.slice av out.length cv).ownBlock ≠ some a'.block from fun a' n' c' e _ e2 => by
      cases e
      have := (HO2.out.lt e2).1
      simp only at this
      omega)
    have HA3 := Lib.hid hpw
    have HEQ := Lib.hid heq
    clear hpw heq
    gi_wp2_with ((refine ⟨trivial, ?_⟩; gi_at_call 34; refine (callsIn_wide.2 (with_any W0.heap.size out [⟨at_, to⟩] _ _ _ HW3.out (RdS_one W ⟨at_, to⟩) HNE.out (by have := HA3.out.size; omega) (by simp; omega))).mono ?_; rintro e w5 ⟨v5, rfl, hO5, hg5, hn5⟩; obtain ⟨rn, hrn⟩ : ∃ rn, rn = out ++ List.filter neB [⟨at_, to⟩] := ⟨_, rfl⟩; rw [← hrn] at hO5; have HRN := Lib.hid (hrn.trans HEQ.out); clear hrn; obtain ⟨t1, t2, t3⟩ := grown_own HO2.out HA3.out hg5; have HT1 := Lib.hid t1; have HT2 := Lib.hid t2; have HO5 := Lib.hid hO5; obtain ⟨a5, c5, rfl⟩ := hO5.slice; clear hg5 hn5 hO5 t1 t2 t3 rb))
    have hK5 := HT1.out.same D _ hK rfl
    have hgl := gapL_len l ⟨fr, to⟩ fr
    refine ⟨by simp, .inl ⟨_, _, rfl, run_takeDeferred hK5, ?_⟩⟩
    refine ⟨_, results_tmp rfl _ _ _, _, rfl, ?_, (hB.trans (HT2.out w.heap.size (by omega) (by omega))).trans (belowK_b (w := w) (Nat.le_refl _) w5 D _ _ (by have := hB0.size; omega) hK5 rfl rfl)⟩
    rw [HR.out, ← HRN.out]
    exact Owns.rd (ownsRow_putObj HO5.out _ hK5 rfl) (by rw [HRN.out]; omega)

theorem gaps_any (l : List Sp) (s : Sp) (v : Value) (w : World) (h : RdS w v l) (hll : l.length ≤ 1000) : Calls Try.prog 23 #[v, spV s] w (ListPost w (gapF l s)) := by
  cases hc : takB l s
  · exact gaps_no l s v w h hc
  · exact gaps_yes l s v w h hll hc

end Go.Proofs.Ythkkhgfdppbphaa
