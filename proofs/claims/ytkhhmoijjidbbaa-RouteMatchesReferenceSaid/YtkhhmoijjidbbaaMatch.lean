/- The law RouteMatchesReference: what its slices read as. -/
import Derived.Test.YtkhhmoijjidbbaaRow
import Derived.Test.YtkhhmoijjidbbaaRefC
import Derived.Test.YtkhhmoijjidbbaaCopy
namespace Go.Proofs.Ytkhhmoijjidbbaa
open Go.RowKit Go.Sort
set_option linter.unusedVariables false

theorem run_bsI0 (w : World) : (Instr.buildSlice 31 0 #[]).run Try.prog w = .ok (.slice (some ⟨w.heap.size, 0, none⟩) 0 0) (w.alloc (.cells #[] 27)) := by kernel_rfl
theorem ifcs_cells {w : World} {b o : Nat} {rs : List If} (hc : ∀ i, i < rs.length → IfCells w b (o + i * 5) (ifAt rs i)) : ∀ j u, (ifcs rs)[j]? = some u → w.cell? ((⟨b, o, none⟩ : Addr).add j) = some u := by
  intro j u hj
  rw [add_mk]
  have hjl : j < rs.length * 5 := by
    rcases Nat.lt_or_ge j (rs.length * 5) with h | h
    · exact h
    · rw [List.getElem?_eq_none (by rw [ifcs_len]; exact h)] at hj; cases hj
  have hi : j / 5 < rs.length := by omega
  obtain ⟨c0, c1, c2, c3, c4⟩ := hc (j / 5) hi
  rw [show j = j / 5 * 5 + j % 5 by omega, ifcs_get rs (j / 5) hi (j % 5) (by omega), ← ifAt_eq rs _ hi] at hj
  have h4 : j % 5 = 0 ∨ j % 5 = 1 ∨ j % 5 = 2 ∨ j % 5 = 3 ∨ j % 5 = 4 := by omega
  rcases h4 with h | h | h | h | h
  · rw [h] at hj; simp [ifc] at hj; subst hj; rw [show o + j = o + j / 5 * 5 by omega]; exact c0
  · rw [h] at hj; simp [ifc] at hj; subst hj; rw [show o + j = o + j / 5 * 5 + 1 by omega]; exact c1
  · rw [h] at hj; simp [ifc] at hj; subst hj; rw [show o + j = o + j / 5 * 5 + 2 by omega]; exact c2
  · rw [h] at hj; simp [ifc] at hj; subst hj; rw [show o + j = o + j / 5 * 5 + 3 by omega]; exact c3
  · rw [h] at hj; simp [ifc] at hj; subst hj; rw [show o + j = o + j / 5 * 5 + 4 by omega]; exact c4
theorem ifc_one (r : If) : ∀ u ∈ ifc r, u.oneCell' = true := by
  intro u hu; simp [ifc] at hu; rcases hu with h | h | h | h | h <;> (subst h; rfl)
theorem ifcs_one (rs : List If) : ∀ u ∈ ifcs rs, u.oneCell' = true := by
  intro u hu
  obtain ⟨r, _, hr⟩ := List.mem_flatMap.1 hu
  exact ifc_one r u hr

/-- The elements of a list that a slice reads as, at its address. -/
theorem RdI.news {w : World} {a : Option Addr} {n c : Nat} {fs : List If} (h : RdI w (.slice a n c) fs) (h0 : 1 ≤ fs.length) : n = fs.length ∧ fs.length ≤ 1000 ∧ ∃ ad, a = some ad ∧ ∀ j u, (ifcs fs)[j]? = some u → w.cell? (ad.add j) = some u := by
  obtain ⟨a', c', e, h1, h2, h3⟩ := h
  cases e
  obtain ⟨b, o, rfl, hc⟩ := h3 (by omega)
  exact ⟨rfl, h2, _, rfl, ifcs_cells hc⟩
theorem RdR.news {w : World} {a : Option Addr} {n c : Nat} {fs : List Rt} (h : RdR w (.slice a n c) fs) (h0 : 1 ≤ fs.length) : n = fs.length ∧ fs.length ≤ 1000 ∧ ∃ ad, a = some ad ∧ ∀ j u, (rtcs fs)[j]? = some u → w.cell? (ad.add j) = some u := by
  obtain ⟨a', c', e, h1, h2, h3⟩ := h
  cases e
  obtain ⟨b, o, rfl, hc⟩ := h3 (by omega)
  exact ⟨rfl, h2, _, rfl, rtcs_cells hc⟩
theorem blk_news {w : World} {b : Nat} {xs : List Value} {t : TypeId} (h : w.heap[b]? = some (.cells xs.toArray t)) : ∀ j u, xs[j]? = some u → w.cell? ((⟨b, 0, none⟩ : Addr).add j) = some u := by
  intro j u hj
  rw [add_mk]
  simpa [World.cell?, h] using hj

/-- Five cells stored over one element. -/
def put5 (w : World) (b o : Nat) (x : If) : World := ((((w.setCell ⟨b, o, none⟩ (.int .i64 x.mac)).setCell ⟨b, o + 1, none⟩ (.int .i64 x.addr)).setCell ⟨b, o + 2, none⟩ (.int .i64 x.na)).setCell ⟨b, o + 3, none⟩ (.int .i64 x.nb)).setCell ⟨b, o + 4, none⟩ (.int .i64 x.mtu)

theorem below_put5 {B : Nat} {w : World} {b : Nat} (hB : B ≤ b) (o : Nat) (x : If) : Below B w (put5 w b o x) :=
  (((((Below.refl B w).setCell (p := ⟨b, o, none⟩) hB _).setCell (p := ⟨b, o + 1, none⟩) hB _).setCell (p := ⟨b, o + 2, none⟩) hB _).setCell (p := ⟨b, o + 3, none⟩) hB _).setCell (p := ⟨b, o + 4, none⟩) hB _

theorem IfCells_below {B : Nat} {w w' : World} {b o : Nat} {x : If} (hb : Below B w w') (hB : b < B) (h : IfCells w b o x) : IfCells w' b o x := by
  obtain ⟨h0, h1, h2, h3, h4⟩ := h
  exact ⟨(hb.cell hB).trans h0, (hb.cell hB).trans h1, (hb.cell hB).trans h2, (hb.cell hB).trans h3, (hb.cell hB).trans h4⟩
theorem RtCells_below {B : Nat} {w w' : World} {b o : Nat} {x : Rt} (hb : Below B w w') (hB : b < B) (h : RtCells w b o x) : RtCells w' b o x := by
  obtain ⟨h0, h1, h2, h3⟩ := h
  exact ⟨(hb.cell hB).trans h0, (hb.cell hB).trans h1, (hb.cell hB).trans h2, (hb.cell hB).trans h3⟩

theorem set_cell (w : World) (b o o' : Nat) (v : Value) : (w.setCell ⟨b, o, none⟩ v).cell? ⟨b, o', none⟩ = if o = o' then (w.cell? ⟨b, o', none⟩).map (fun _ => v) else w.cell? ⟨b, o', none⟩ := by
  simp only [World.cell?, World.setCell, Array.getElem?_modify]
  cases h : w.heap[b]? with
  | none => simp
  | some ob =>
    cases ob with
    | cells c e f =>
      simp only [if_true, Option.map_some, Option.isSome_none, Bool.false_eq_true, if_false]
      by_cases ho : o = o'
      · subst ho
        simp only [if_true]
        rcases Nat.lt_or_ge o c.size with hlt | hge
        · simp [hlt]
        · simp [Array.getElem?_eq_none hge]; exact hge
      · rw [if_neg ho, Array.getElem?_setIfInBounds_ne ho]
    | _ => simp

theorem RdI_put {w : World} {b n c : Nat} {fs : List If} (h : RdI w (.slice (some ⟨b, 0, none⟩) n c) fs) (k : Nat) (hk : k < fs.length) (x : If) : RdI (put5 w b (k * 5) x) (.slice (some ⟨b, 0, none⟩) n c) (fs.set k x) := by
  obtain ⟨a', c', e, h1, h2, h3⟩ := h
  cases e
  obtain ⟨b', o', e, hc⟩ := h3 (by omega)
  cases e
  refine ⟨_, c, by rw [List.length_set], by rw [List.length_set]; exact h1, by rw [List.length_set]; exact h2, fun _ => ⟨b, 0, rfl, fun i hi => ?_⟩⟩
  rw [List.length_set] at hi
  obtain ⟨c0, c1, c2, c3, c4⟩ := hc i hi
  have key : ∀ j, j < 5 → (put5 w b (k * 5) x).cell? ⟨b, 0 + i * 5 + j, none⟩ = if i = k then (w.cell? ⟨b, 0 + i * 5 + j, none⟩).bind (fun _ => (ifc x)[j]?) else w.cell? ⟨b, 0 + i * 5 + j, none⟩ := by
    intro j hj
    unfold put5
    simp only [set_cell]
    by_cases hik : i = k
    · subst hik
      have hs : ∃ u, w.cell? ⟨b, 0 + i * 5 + j, none⟩ = some u := by
        obtain rfl | rfl | rfl | rfl | rfl : j = 0 ∨ j = 1 ∨ j = 2 ∨ j = 3 ∨ j = 4 := by omega
        · exact ⟨_, c0⟩
        · exact ⟨_, c1⟩
        · exact ⟨_, c2⟩
        · exact ⟨_, c3⟩
        · exact ⟨_, c4⟩
      obtain ⟨u, hu⟩ := hs
      rw [if_pos rfl, hu]
      obtain rfl | rfl | rfl | rfl | rfl : j = 0 ∨ j = 1 ∨ j = 2 ∨ j = 3 ∨ j = 4 := by omega
      all_goals simp [ifc]
    · rw [if_neg hik, if_neg (by omega), if_neg (by omega), if_neg (by omega), if_neg (by omega), if_neg (by omega)]
  have hx : ifAt (fs.set k x) i = if i = k then x else ifAt fs i := by
    rw [ifAt_eq _ _ (by rw [List.length_set]; exact hi), List.getElem_set, ifAt_eq _ _ hi]
    by_cases hik : i = k
    · subst hik; simp
    · simp [hik, Ne.symm hik]
  rw [hx]
  have g0 := key 0 (by omega)
  have g1 := key 1 (by omega)
  have g2 := key 2 (by omega)
  have g3 := key 3 (by omega)
  have g4 := key 4 (by omega)
  rw [show 0 + i * 5 + 0 = 0 + i * 5 by omega] at g0
  by_cases hik : i = k
  · rw [if_pos hik] at g0 g1 g2 g3 g4 ⊢
    rw [c0] at g0; rw [c1] at g1; rw [c2] at g2; rw [c3] at g3; rw [c4] at g4
    exact ⟨g0, g1, g2, g3, g4⟩
  · rw [if_neg hik] at g0 g1 g2 g3 g4 ⊢
    exact ⟨g0.trans c0, g1.trans c1, g2.trans c2, g3.trans c3, g4.trans c4⟩


def gh6 (w0 : World) (rs : List Rt) (q : Rt) : Ghost where
  inv vs w := match vs with
    | [] => Below w0.heap.size w0 w
    | [v] => Below w0.heap.size w0 w ∧ w.ownsRow w0.heap.size 29 4 v rs.length (rtcs rs)
    | [_, v] => Below w0.heap.size w0 w ∧ RdR w v (rs ++ [q])
    | _ => False
  own vs b := match vs with
    | [v] => spare v (rs.length + 1) b
    | _ => False
  quiet := by
    intro vs w w' h hb
    match vs, h with
    | [], h => exact below_mid h hb
    | [v], h => exact ⟨below_mid h.1 hb, ownsRow_stay hb h.2⟩
    | [_, v], h => exact ⟨below_mid h.1 hb, h.2.stay hb⟩
  bound := by
    intro vs w b h ho
    match vs, h, ho with
    | [v], h, ho =>
      obtain ⟨n, c, rfl, hc⟩ := ho
      rcases h.2.2 with ⟨e, _⟩ | ⟨g, _, _, e, _, hg, _⟩
      · cases e
      · cases e; exact (Array.getElem?_eq_some_iff.1 hg).1
theorem gh6_below {w0 : World} {rs : List Rt} {q : Rt} {vs : List Value} {w : World} (h : (gh6 w0 rs q).inv vs w) : Below w0.heap.size w0 w := by
  match vs, h with
  | [], h => exact h
  | [_], h => exact h.1
  | [_, _], h => exact h.1

def gh8 (w0 : World) (fs : List If) (q r : If) : Ghost where
  inv vs w := match vs with
    | [] => Below w0.heap.size w0 w
    | [a] => Below w0.heap.size w0 w ∧ w.ownsRow w0.heap.size 27 5 a fs.length (ifcs fs)
    | [_, b] => Below w0.heap.size w0 w ∧ RdI w b (fs ++ [q])
    | [_, b, c] => Below w0.heap.size w0 w ∧ ∃ W, RdI W b (fs ++ [q]) ∧ Below W.heap.size W w ∧ w0.heap.size ≤ W.heap.size ∧ w.ownsRow W.heap.size 27 5 c fs.length (ifcs fs)
    | [_, b, _, d] => Below w0.heap.size w0 w ∧ RdI w b (fs ++ [q]) ∧ RdI w d (fs ++ [r])
    | _ => False
  own vs b := match vs with
    | [v] => spare v (fs.length + 1) b
    | [_, _, v] => spare v (fs.length + 1) b
    | _ => False
  quiet := by
    intro vs w w' h hb
    match vs, h with
    | [], h => exact below_mid h hb
    | [v], h => exact ⟨below_mid h.1 hb, ownsRow_stay hb h.2⟩
    | [_, v], h => exact ⟨below_mid h.1 hb, h.2.stay hb⟩
    | [_, b, c], ⟨h1, W, h2, h3, h4, h5⟩ => exact ⟨below_mid h1 hb, W, h2, below_mid h3 hb, h4, ownsRow_stay hb h5⟩
    | [_, b, _, d], h => exact ⟨below_mid h.1 hb, h.2.1.stay hb, h.2.2.stay hb⟩
  bound := by
    have key : ∀ (w : World) (base : Nat) (v : Value) (b : Nat), w.ownsRow base 27 5 v fs.length (ifcs fs) → spare v (fs.length + 1) b → b < w.heap.size := by
      intro w base v b h ho
      obtain ⟨n, c, rfl, hc⟩ := ho
      rcases h.2 with ⟨e, _⟩ | ⟨g, _, _, e, _, hg, _⟩
      · cases e
      · cases e; exact (Array.getElem?_eq_some_iff.1 hg).1
    intro vs w b h ho
    match vs, h, ho with
    | [v], h, ho => exact key w _ v b h.2 ho
    | [_, _, v], ⟨_, W, _, _, _, h⟩, ho => exact key w _ v b h ho
theorem gh8_below {w0 : World} {fs : List If} {q r : If} {vs : List Value} {w : World} (h : (gh8 w0 fs q r).inv vs w) : Below w0.heap.size w0 w := by
  match vs, h with
  | [], h => exact h
  | [_], h => exact h.1
  | [_, _], h => exact h.1
  | [_, _, _], h => exact h.1
  | [_, _, _, _], h => exact h.1

theorem gh8_nth1 {w0 : World} {fs : List If} {q r : If} {vs : List Value} {w : World} {v : Value} (h : (gh8 w0 fs q r).inv vs w) (hv : vs[1]? = some v) : ∃ a n c, v = .slice a n c := by
  match vs, h, hv with
  | [_, b], h, hv => obtain ⟨a, c, e, _⟩ := h.2; cases hv; exact ⟨_, _, _, e⟩
  | [_, b, _], ⟨_, W, h, _⟩, hv => obtain ⟨a, c, e, _⟩ := h; cases hv; exact ⟨_, _, _, e⟩
  | [_, b, _, _], h, hv => obtain ⟨a, c, e, _⟩ := h.2.1; cases hv; exact ⟨_, _, _, e⟩
theorem gh8_nth3 {w0 : World} {fs : List If} {q r : If} {vs : List Value} {w : World} {v : Value} (h : (gh8 w0 fs q r).inv vs w) (hv : vs[3]? = some v) : ∃ a n c, v = .slice a n c := by
  match vs, h, hv with
  | [_, _, _, d], h, hv => obtain ⟨a, c, e, _⟩ := h.2.2; cases hv; exact ⟨_, _, _, e⟩
theorem run_bd2 (a b : Option Addr) (n c m d : Nat) (w : World) : (Instr.build 36 #[(0, .slice a n c), (1, .slice b m d)]).run Try.prog w = .ok (.agg #[.slice a n c, .slice b m d]) w := by kernel_rfl

theorem run_bs6 (a0 b0 : Option Addr) (n0 c0 m0 d0 : Nat) (a1 b1 : Option Addr) (n1 c1 m1 d1 : Nat) (a2 b2 : Option Addr) (n2 c2 m2 d2 : Nat) (a3 b3 : Option Addr) (n3 c3 m3 d3 : Nat) (a4 b4 : Option Addr) (n4 c4 m4 d4 : Nat) (a5 b5 : Option Addr) (n5 c5 m5 d5 : Nat) (w : World) : (Instr.buildSlice 37 6 #[(0, .agg #[.slice a0 n0 c0, .slice b0 m0 d0]), (1, .agg #[.slice a1 n1 c1, .slice b1 m1 d1]), (2, .agg #[.slice a2 n2 c2, .slice b2 m2 d2]), (3, .agg #[.slice a3 n3 c3, .slice b3 m3 d3]), (4, .agg #[.slice a4 n4 c4, .slice b4 m4 d4]), (5, .agg #[.slice a5 n5 c5, .slice b5 m5 d5])]).run Try.prog w = .ok (.slice (some ⟨w.heap.size, 0, none⟩) 6 6) (w.alloc (.cells #[.slice a0 n0 c0, .slice b0 m0 d0, .slice a1 n1 c1, .slice b1 m1 d1, .slice a2 n2 c2, .slice b2 m2 d2, .slice a3 n3 c3, .slice b3 m3 d3, .slice a4 n4 c4, .slice b4 m4 d4, .slice a5 n5 c5, .slice b5 m5 d5] 36)) := by kernel_rfl
def gblk2 (Γ : Ghost) (B : Nat) (V : Nat → Value) (C : Value → Value → Obj) : GPred := fun v g => ∃ b d, g.vs[1]? = some b ∧ g.vs[3]? = some d ∧ gblk Γ B V (C b d) v g
theorem gblk2_lasts (Γ : Ghost) (B : Nat) (V : Nat → Value) (C : Value → Value → Obj) : Γ.lasts (gblk2 Γ B V C) := by
  rintro v g g' hJ ⟨b, d, h1, h2, h3⟩ hs
  exact ⟨b, d, gnth_lasts Γ 1 b g g' hJ h1 hs, gnth_lasts Γ 3 d g g' hJ h2 hs, gblk_lasts Γ B V _ v g g' hJ h3 hs⟩

theorem run_bsi3 (x y z : Int) (w : World) : (Instr.buildSlice 41 3 #[(0, .int .i64 x), (1, .int .i64 y), (2, .int .i64 z)]).run Try.prog w = .ok (.slice (some ⟨w.heap.size, 0, none⟩) 3 3) (w.alloc (.cells #[.int .i64 x, .int .i64 y, .int .i64 z] 3)) := by kernel_rfl
theorem rlookup_r {fs : List If} {rs : List Rt} {to : Int} {a b c : Int} (h : look fs rs to = (a, b, c)) (v u : Value) (w : World) (hF : RdI w v fs) (hG : RdR w u rs) :
    Calls Try.prog 16 #[v, u, .int .i64 to] w fun e w' => e = .returned (.tuple #[.int .i64 a, .int .i64 b, .int .i64 c]) ∧ Below w.heap.size w w' := by
  have := rlookup_any fs rs to v u w hF hG
  rw [h] at this
  exact this

theorem len1 {α : Type} {l : List α} (h : l.length = 1) : ∃ a, l = [a] := by
  match l, h with
  | [a], _ => exact ⟨a, rfl⟩
theorem len2 {α : Type} {l : List α} (h : l.length = 2) : ∃ a b, l = [a, b] := by
  match l, h with
  | [a, b], _ => exact ⟨a, b, rfl⟩
theorem len3 {α : Type} {l : List α} (h : l.length = 3) : ∃ a b c, l = [a, b, c] := by
  match l, h with
  | [a, b, c], _ => exact ⟨a, b, c, rfl⟩
theorem len4 {α : Type} {l : List α} (h : l.length = 4) : ∃ a b c d, l = [a, b, c, d] := by
  match l, h with
  | [a, b, c, d], _ => exact ⟨a, b, c, d, rfl⟩

end Go.Proofs.Ytkhhmoijjidbbaa
