/- Contracts of package ranges, eighth part: Add. -/
import Derived.Test.YthkkhgfdppbphaaGap
namespace Go.Proofs.Ythkkhgfdppbphaa
open Go.RowKit Go.Sort Go.Shelf
set_option linter.unusedVariables false
attribute [local go_sem] Oper.semAt_some
attribute [local go_sem ↓] run_mn run_mx

def addF (l : List Sp) (s : Sp) : List Sp := if takB l s = true then addL l s else []
theorem len1 {α : Type} {l : List α} (h : l.length = 1) : ∃ a, l = [a] := by
  match l, h with
  | [a], _ => exact ⟨a, rfl⟩
theorem len2 {α : Type} {l : List α} (h : l.length = 2) : ∃ a b, l = [a, b] := by
  match l, h with
  | [a, b], _ => exact ⟨a, b, rfl⟩
theorem filter_all {l : List Sp} (h : ∀ x ∈ l, x.fr < x.to) : l.filter neB = l := List.filter_eq_self.2 (fun x hx => by simp [neB, h x hx])
theorem can_ne {l : List Sp} {e : Int} (h : canF e l = true) (k : Nat) : ∀ x ∈ l.drop k, x.fr < x.to := fun x hx => (can_all h x (List.mem_of_mem_drop hx)).2.2.1
theorem set_get1 {w : World} {p o : Nat} {u v : Value} (h : w.cell? ⟨p, o, none⟩ = some u) : (w.setCell ⟨p, o, none⟩ v).cell? ⟨p, o, none⟩ = some v := World.cell?_setCell_same' _ _ _ (by rw [h]; rfl)
theorem set_cell2 (w : World) (b o o' : Nat) (v : Value) (h : o ≠ o') : (w.setCell ⟨b, o, none⟩ v).cell? ⟨b, o', none⟩ = w.cell? ⟨b, o', none⟩ := by
  simp only [World.cell?, World.setCell, Array.getElem?_modify]
  cases hh : w.heap[b]? with
  | none => simp
  | some ob =>
    cases ob with
    | cells c e f => simp only [if_true, Option.map_some, Option.isSome_none, Bool.false_eq_true, if_false]; rw [Array.getElem?_setIfInBounds_ne h]
    | _ => simp
theorem tak_ok {l : List Sp} {s : Sp} (h : takB l s = true) : canF (-1) l = true ∧ 0 ≤ s.fr ∧ s.fr < s.to ∧ s.to ≤ 1099511627776 := by
  simp only [takB, Bool.and_eq_true, okS_iff] at h
  exact ⟨h.1, h.2.1, h.2.2.2.1, h.2.2.2.2⟩
theorem addL_len (l : List Sp) (s : Sp) : (addL l s).length ≤ l.length + 1 := by
  induction l generalizing s with
  | nil => simp [addL]
  | cons x l ih =>
    unfold addL
    split
    · have := ih s; simp; omega
    · split
      · simp
      · have := ih (mrg s x); simp; omega
theorem _root_.Go.World.ownsRow.lt_mk {w : World} {base : Nat} {e : TypeId} {size : Nat} {b n c : Nat} {xs : List Value} (h : w.ownsRow base e size (.slice (some ⟨b, 0, none⟩) n c) n xs) : b < w.heap.size := by
  rcases h.2 with ⟨e, _⟩ | ⟨g, _, _, e, _, hc, _⟩
  · cases e
  · cases e; exact (Array.getElem?_eq_some_iff.1 hc).1

theorem ownsRow_set_ne {w : World} {base : Nat} {e : TypeId} {size : Nat} {v : Value} {n : Nat} {xs : List Value} (h : w.ownsRow base e size v n xs) {b o : Nat} (hb : v.ownBlock ≠ some b) (u : Value) : (w.setCell ⟨b, o, none⟩ u).ownsRow base e size v n xs := by
  obtain ⟨h1, h2⟩ := h
  refine ⟨h1, ?_⟩
  rcases h2 with h2 | ⟨g, cap, cur, hv, hg, hh, r⟩
  · exact .inl h2
  · refine .inr ⟨g, cap, cur, hv, hg, ?_, r⟩
    rw [Below.heap_setCell _ _ _ _ (fun e => hb (by rw [hv]; simp [Value.ownBlock]; simpa using e))]
    exact hh
/-- A variable that holds a slice whose row the call owns, in none of the blocks av. -/
def OutN (ob base : Nat) (av : List Nat) (l : List Sp) (W : World) : Prop := ∃ v, W.cell? ⟨ob, 0, none⟩ = some v ∧ W.frozen? ⟨ob, 0, none⟩ = false ∧ Owns W base v l ∧ ∀ b ∈ av, v.ownBlock ≠ some b
theorem OutN.nocells {ob base : Nat} {av : List Nat} {l : List Sp} {X Y : World} {row : Option Nat} (h : OutN ob base av l X) (hg : X.grownBy Y row) (hrow : ∀ r, row = some r → ∃ o : Obj, X.heap[r]? = some o ∧ o.isCells = false) : OutN ob base av l Y := by
  obtain ⟨v, h1, h2, h3, h4⟩ := h
  exact ⟨v, cell_kept h1 hg hrow, (frozen_kept h1 hg hrow).trans h2, ownsRow_nocells h3 hg hrow, h4⟩
theorem OutN.set {ob base : Nat} {av : List Nat} {l : List Sp} {W : World} (h : OutN ob base av l W) {b o : Nat} (hb : b ≠ ob) (hav : b ∈ av ∨ b < base) (u : Value) : OutN ob base av l (W.setCell ⟨b, o, none⟩ u) := by
  obtain ⟨v, h1, h2, h3, h4⟩ := h
  refine ⟨v, (World.cell?_of_block (a := ⟨ob, 0, none⟩) (Below.heap_setCell _ _ _ _ (by simpa using hb.symm))).trans h1, by rw [World.frozen?_setCell]; exact h2, ownsRow_set_ne h3 ?_ u, h4⟩
  rcases hav with h | h
  · exact h4 b h
  · intro e; have := (h3.lt e).2; omega
/-- Behind an append to the row, and the store of what it has handed back. -/
theorem stored2 {ob base : Nat} {l r : List Sp} {W W1 W2 : World} {v v' : Value} (h1 : W.cell? ⟨ob, 0, none⟩ = some v) (h2 : W.frozen? ⟨ob, 0, none⟩ = false) (h3 : Owns W base v l) (hne : v.ownBlock ≠ some ob) (hb : Below W.heap.size W W1) (hg : W1.grownBy W2 v.ownBlock) (h4 : Owns W2 base v' r) (hn : near W1 v v') (hbase : base ≤ W.heap.size) :
    W2.cell? ⟨ob, 0, none⟩ = some v ∧ W2.frozen? ⟨ob, 0, none⟩ = false ∧ ((W2.setCell ⟨ob, 0, none⟩ v').cell? ⟨ob, 0, none⟩ = some v' ∧ (W2.setCell ⟨ob, 0, none⟩ v').frozen? ⟨ob, 0, none⟩ = false ∧ Owns (W2.setCell ⟨ob, 0, none⟩ v') base v' r) ∧ (∀ k, k < W.heap.size → v.ownBlock ≠ some k → v'.ownBlock ≠ some k) ∧
      KeepsOthers W (W2.setCell ⟨ob, 0, none⟩ v') ∧ (∀ B, B ≤ base → B ≤ ob → Below B W (W2.setCell ⟨ob, 0, none⟩ v')) ∧ (∀ k, k < W.heap.size → k ≠ ob → v.ownBlock ≠ some k → (W2.setCell ⟨ob, 0, none⟩ v').heap[k]? = W.heap[k]?) := by
  have hlt : ob < W.heap.size := block_lt_of_cell h1
  obtain ⟨t1, t2, t3⟩ := grown_own h3 hb hg
  have e2 := t3 ob hlt hne
  have c2 : W2.cell? ⟨ob, 0, none⟩ = some v := (World.cell?_of_block (a := ⟨ob, 0, none⟩) e2).trans h1
  have f2 : W2.frozen? ⟨ob, 0, none⟩ = false := (World.frozen?_of_block (a := ⟨ob, 0, none⟩) e2).trans h2
  have hnew : ∀ k, k < W.heap.size → v.ownBlock ≠ some k → v'.ownBlock ≠ some k := by
    intro k hk hvk e
    rcases hn with h | h | ⟨g, h, hg'⟩
    · rw [h] at e; cases e
    · rw [h] at e; exact hvk e
    · rw [h] at e; cases e; have := hb.size; omega
  refine ⟨c2, f2, ⟨set_get c2, by rw [World.frozen?_setCell]; exact f2, ownsRow_set_ne h4 (hnew ob hlt hne) _⟩, hnew, t1.trans (KeepsOthers.setCell _ _ _), fun B hB hBo => (t2 B hB (by omega)).setCell (p := ⟨ob, 0, none⟩) hBo _, fun k hk hko hkn => ?_⟩
  rw [Below.heap_setCell _ _ _ _ (by simpa using hko)]
  exact t3 k hk hkn

theorem wpListIn_appS {F : Fence} {n : Nat} {ops : Array Oper} {rest : List Oper} {o : Oper} {a : Act} {w : World} {Q : Exit → Act → World → Prop} (hgd : o.guard = none) (s x : Operand)
    (ho : o.op = .call { callee := .builtin .append, args := #[s, x], argTypes := #[22, 22] }) {base : Nat} {v : Value} {l : List Sp} (hs : a.eval s = v) (hown : Owns w base v l)
    {ad : Addr} {m c : Nat} (ps : List Sp) (hx : a.eval x = .slice (some ad) m c) (hm : m = ps.length) (hnews : ∀ j u, (spcs ps)[j]? = some u → w.cell? (ad.add j) = some u) (hlen : l.length + m ≤ 1000000) (hbase : base ≤ w.heap.size)
    (h : ∀ v' w', Owns w' base v' (l ++ ps) → w.grownBy w' v.ownBlock → near w v v' → wpListIn F n Try.prog ops Q rest (a.put o.dst v') w') : wpListIn F n Try.prog ops Q (o :: rest) a w := by
  obtain ⟨i0, hi, hz0, hz1, hz2⟩ := info_parts infoS
  subst hm
  obtain ⟨v', w', hrun, r1, r2, r3⟩ := run_append_near (P := Try.prog) w base 22 o.type 24 i0 _ 2 16 Try.underlying22 hi hz0 hz1 hz2 rfl (by decide) v l.length (spcs l) hown ad ps.length c (spcs ps) (spcs_len ps) hnews (spcs_oc ps) (by unfold maxLen; omega) (by omega) hbase
  refine wpListIn_plain hgd fun K hK => ?_
  unfold Oper.wpIn
  refine ⟨by simp [Oper.about, ho, resolve, Target.leads, Sem.run_pure], ?_⟩
  rw [Oper.semAt_plain F _ _ (by rw [ho]; intro c hc'; cases hc')]
  simp [execOp, ho, resolve, invoke, builtin, hs, hx, hrun, Result.andThen]
  refine hK _ _ (h v' w' ?_ r2 r3)
  show w'.ownsRow base 24 2 v' (l ++ ps).length (spcs (l ++ ps))
  rw [spcs_app, List.length_append]
  exact r1

/-- What the loop of Add keeps: the span s', the row of out, the number rest, and R of the three. -/
def AddI (w : World) (ob base : Nat) (R : Sp → List Sp → Int → Prop) (W : World) : Prop :=
  ∃ s' out r, R s' out r ∧ (W.cell? ⟨w.heap.size, 0, none⟩ = some (.int .i64 s'.fr) ∧ W.cell? ⟨w.heap.size, 1, none⟩ = some (.int .i64 s'.to) ∧ W.frozen? ⟨w.heap.size, 0, none⟩ = false ∧ W.frozen? ⟨w.heap.size, 1, none⟩ = false) ∧ (W.cell? ⟨ob + 1, 0, none⟩ = some (.int .i64 r) ∧ W.frozen? ⟨ob + 1, 0, none⟩ = false) ∧ OutN ob base [ob, ob + 1] out W ∧ Below w.heap.size w W ∧ base ≤ W.heap.size
theorem AddI.kept {w : World} {ob base : Nat} {R : Sp → List Sp → Int → Prop} {A B : World} {row : Option Nat} {n : Nat} (h : AddI w ob base R A) (hn : w.heap.size ≤ n) (hg : A.grownBy B row) (hr : ∀ r, row = some r → n ≤ r ∧ ∃ o : Obj, A.heap[r]? = some o ∧ o.isCells = false) : AddI w ob base R B := by
  obtain ⟨s', out, r, h1, ⟨h2, h3, h4, h5⟩, ⟨h6, h7⟩, h8, h9, h10⟩ := h
  have hr' : ∀ r, row = some r → ∃ o : Obj, A.heap[r]? = some o ∧ o.isCells = false := fun r e => (hr r e).2
  exact ⟨s', out, r, h1, ⟨cell_kept h2 hg hr', cell_kept h3 hg hr', (frozen_kept h2 hg hr').trans h4, (frozen_kept h3 hg hr').trans h5⟩, ⟨cell_kept h6 hg hr', (frozen_kept h6 hg hr').trans h7⟩, h8.nocells hg hr', h9.grown hg h9.size (fun k e => Nat.le_trans hn (hr k e).1), Nat.le_trans h10 hg.size⟩

/-- Behind the first call of with: its row, and all the rest as it was. -/
def ghA (W : World) (base : Nat) (v0 : Value) (out L1 L2 : List Sp) (h0 : Owns W base v0 out) : Ghost where
  inv vs w := match vs with
    | [] => Below W.heap.size W w
    | [v1] => (Owns w base v1 L1 ∧ near W v0 v1) ∧ W.grownBy w v0.ownBlock
    | [_, v2] => Owns w base v2 L2 ∧ W.grownBy w v0.ownBlock
    | _ => False
  own vs b := match vs with
    | [] => v0.ownBlock = some b
    | [v1] => v1.ownBlock = some b
    | _ => False
  quiet := by
    intro vs w w' h hb
    match vs, h with
    | [], h => exact below_mid h hb
    | [v1], h => exact ⟨⟨ownsRow_stay hb h.1.1, h.1.2⟩, grownBy_trans h.2 (grownBy_of_below hb none) (.inl rfl)⟩
    | [_, v2], h => exact ⟨ownsRow_stay hb h.1, grownBy_trans h.2 (grownBy_of_below hb none) (.inl rfl)⟩
  bound := by
    intro vs w b h ho
    match vs, h, ho with
    | [], h, ho => exact Nat.lt_of_lt_of_le (h0.lt ho).1 h.size
    | [v1], h, ho => exact (h.1.1.lt ho).1
theorem ghA_fr {W : World} {base : Nat} {v0 : Value} {out L1 L2 : List Sp} {h0 : Owns W base v0 out} {vs : List Value} {w : World} (h : (ghA W base v0 out L1 L2 h0).inv vs w) : W.grownBy w v0.ownBlock := by
  match vs, h with
  | [], h => exact grownBy_of_below h _
  | [_], h => exact h.2
  | [_, _], h => exact h.2
theorem fr_cell {W w : World} {row : Option Nat} {b o : Nat} {v : Value} (h : W.grownBy w row) (hc : W.cell? ⟨b, o, none⟩ = some v) (hb : row ≠ some b) : w.cell? ⟨b, o, none⟩ = some v :=
  (World.cell?_of_block (a := ⟨b, o, none⟩) (h.block b (block_lt_of_cell hc) (Ne.symm hb))).trans hc
theorem wp_of_call {P : Program} {o : Oper} {a : Act} {w : World} {f : FuncId} {args : Array Value} {K : Value → World → Prop} {next : Act → World → Prop} {Q : Exit → Act → World → Prop} (h : (execOp a.eval o).run P w = .ok (.enter f args) w)
    (hc : Calls P f args w fun e w' => ∃ v, e = .returned v ∧ K v w') (hn : ∀ v w', K v w' → next (a.put o.dst v) w') : o.wp P a w next Q := by
  unfold Oper.wp; rw [h]; exact hc.mono fun e w' ⟨v, he, hk⟩ => by subst he; exact hn v w' hk

theorem RdS.drop {w : World} {a : Option Addr} {n c : Nat} {l : List Sp} (h : RdS w (.slice a n c) l) (k : Nat) (hk : k ≤ l.length) : RdS w (.slice (if c = k then a else a.map (fun x => x.add (k * 2))) (l.length - k) (c - k)) (l.drop k) := by
  obtain ⟨a', c', e, h1, h2, h3⟩ := h
  cases e
  have hl : (l.drop k).length = l.length - k := by simp
  refine ⟨_, c - k, by rw [hl], by rw [hl]; omega, by rw [hl]; omega, fun hn => ?_⟩
  rw [hl] at hn
  obtain ⟨b, o, rfl, hc⟩ := h3 (by omega)
  refine ⟨b, o + k * 2, ?_, fun i hi => ?_⟩
  · rw [if_neg (by omega)]
    simp only [Option.map_some, Option.some.injEq]
    unfold Addr.add
    split
    · rename_i h
      have : k * 2 = 0 := by simpa using h
      rw [this]; rfl
    · rfl
  · rw [hl] at hi
    have e : spAt (l.drop k) i = spAt l (k + i) := by
      rw [spAt_eq _ _ (by rw [hl]; exact hi), spAt_eq _ _ (by omega)]; simp
    have := hc (k + i) (by omega)
    rw [e, show o + k * 2 + i * 2 = o + (k + i) * 2 by omega]
    exact this

theorem add_no (l : List Sp) (s : Sp) (v : Value) (w : World) (h : RdS w v l) (hc : takB l s = false) :
    Calls Try.prog 17 #[v, spV s] w (ListPost w (addF l s)) := by
  have HR := Lib.hid (show addF l s = [] by simp [addF, hc])
  have hR := h
  obtain ⟨a, cap, rfl, hcap, hlen, hp⟩ := h
  obtain ⟨fr, to⟩ := s
  clear hp
  obtain ⟨d0, d1⟩ := box1 w fr to 24
  have hb0 : Below w.heap.size w (w.alloc (.cells #[.int .i64 fr, .int .i64 to] 24)) := (Below.refl _ _).alloc (Nat.le_refl _) _
  have D0 := Lib.hid d0
  have D1 := Lib.hid d1
  clear d0 d1
  go_enter Try.func17, Try.ntmps17
  go_wp2_with fail
  go_step3
  go_wp2_with fail
  refine (of_any _ _ _ _).mono ?_
  rintro e w1 ⟨rfl, hb⟩
  have hal := (Below.refl w1.heap.size w1).alloc (Nat.le_refl _) (.cells #[.slice a l.length cap] 45)
  have c0 := keep hal (keep hb D0.out)
  have c1 := keep hal (keep hb D1.out)
  have hb1 := below_mid (below_mid hb0 hb) hal
  clear hb hal D0 D1
  go_wp2_with fail
  refine (tak_r hc _ _ _ _ (hR.stay hb1)).mono ?_
  rintro e w2 ⟨rfl, hb2⟩
  go_wp2
  rw [Exit.noGoto_ret]
  go_ret
  exact ⟨_, rfl, by rw [HR.out]; exact RdS_nil _, below_mid hb1 hb2⟩

set_option maxRecDepth 100000 in
set_option maxHeartbeats 4000000 in
theorem add_yes (l : List Sp) (s : Sp) (v : Value) (w : World) (h : RdS w v l) (hll : l.length ≤ 1000) (hc : takB l s = true) :
    Calls Try.prog 17 #[v, spV s] w (ListPost w (addF l s)) := by
  have HR := Lib.hid (show addF l s = addL l s by simp [addF, hc])
  have HC := Lib.hid hc
  clear hc
  have hR := h
  obtain ⟨a, cap, rfl, hcap, hlen, hp⟩ := h
  obtain ⟨fr, to⟩ := s
  clear hp
  obtain ⟨d0, d1⟩ := box1 w fr to 24
  have d2 : (w.alloc (.cells #[.int .i64 fr, .int .i64 to] 24)).frozen? ⟨w.heap.size, 0, none⟩ = false ∧ (w.alloc (.cells #[.int .i64 fr, .int .i64 to] 24)).frozen? ⟨w.heap.size, 1, none⟩ = false := by simp [go_sem]
  have D2 := Lib.hid d2
  clear d2
  have hb0 : Below w.heap.size w (w.alloc (.cells #[.int .i64 fr, .int .i64 to] 24)) := (Below.refl _ _).alloc (Nat.le_refl _) _
  have D0 := Lib.hid d0
  have D1 := Lib.hid d1
  clear d0 d1
  refine (callsIn_wide (n := 5)).1 ?_
  obtain ⟨n, hn⟩ : ∃ n : Nat, n = 5 := ⟨_, rfl⟩
  rw [← hn]
  have h1 : 1 ≤ n := by omega
  have HNN := Lib.hid hn
  clear hn
  refine callsIn_of_wp_marks Try.func17 rfl trivial ?_ rfl
  simp only [Try.ntmps17, List.size_toArray, List.length_cons, List.length_nil, Nat.reduceAdd, Nat.reduceSub, Array.replicate_succ, Array.replicate_zero, List.push_toArray, List.append_toArray, List.nil_append, List.cons_append]
  have hlc : (0:Int) ≤ (l.length : Int) + 1 := by omega
  obtain ⟨i0, hi, hz0, hz1, hz2⟩ := info_parts infoS
  have HI0 := Lib.hid hi
  have HZ0 := Lib.hid hz0
  have HZ1 := Lib.hid hz1
  have HZ2 := Lib.hid hz2
  clear hi hz0 hz1 hz2
  gi_wp2
  refine wpIn_scope_wide ?_
  gi_wp2_with (first
    | (refine ⟨trivial, ?_⟩; gi_at_call 29; refine (callsIn_wide.2 (of_any _ _ _ _)).mono ?_; rintro e w1 ⟨rfl, hb⟩; have hal := (Below.refl w1.heap.size w1).alloc (Nat.le_refl _) (.cells #[.slice a l.length cap] 45); have c0 := keep hal (keep hb D0.out); have c1 := keep hal (keep hb D1.out); have F0 := Lib.hid (frz hal (keep hb D0.out) (frz hb D0.out D2.out.1)); have F1 := Lib.hid (frz hal (keep hb D1.out) (frz hb D1.out D2.out.2)); have hb1 := below_mid (below_mid hb0 hb) hal; clear hb hal D0 D1 D2)
    | (refine ⟨trivial, ?_⟩; gi_at_call 33; refine (callsIn_wide.2 (tak_r HC.out _ _ _ _ (hR.stay hb1))).mono ?_; rintro e w2 ⟨rfl, hb2⟩; have z0 := keep hb2 (a := ⟨w1.heap.size, 0, none⟩) (v := .slice a l.length cap) (by simp); replace F0 := Lib.hid (frz hb2 c0 F0.out); replace F1 := Lib.hid (frz hb2 c1 F1.out); replace c0 := keep hb2 c0; replace c1 := keep hb2 c1; have hb3 := below_mid hb1 hb2; clear hb1 hb2)
    | (gi_at_make; refine wpListIn_make_own _ rfl (.const (.int .i64 0)) (.tmp 18) 22 rfl w2.heap.size 24 i0 _ 2 Try.underlying22 HI0.out HZ0.out HZ1.out .i64 .i64 ((l.length : Int) + 1) (l.length + 1) rfl rfl (by omega) (by rw [HZ2.out]; omega) (by unfold maxLen; omega) (Nat.le_refl _) ?_; intro w3 hmk hgm; have hbm := below_of_grown hgm; have HMK := Lib.hid hmk; have hsm : w2.heap.size < w3.heap.size := (hmk.lt_mk); clear hmk hgm))
  obtain ⟨W0, hW0⟩ : ∃ W0, (w3.alloc (.cells #[.slice (some ⟨w2.heap.size, 0, none⟩) 0 (l.length + 1)] 22)).alloc (.cells #[.int .i64 l.length] 3) = W0 := ⟨_, rfl⟩
  have hal0 : Below w3.heap.size w3 W0 := by rw [← hW0]; exact ((Below.refl _ _).alloc (Nat.le_refl _) _).alloc (by simp) _
  have e0 : W0.cell? ⟨w3.heap.size, 0, none⟩ = some (.slice (some ⟨w2.heap.size, 0, none⟩) 0 (l.length + 1)) ∧ W0.frozen? ⟨w3.heap.size, 0, none⟩ = false ∧ W0.cell? ⟨w3.heap.size + 1, 0, none⟩ = some (.int .i64 l.length) ∧ W0.frozen? ⟨w3.heap.size + 1, 0, none⟩ = false := by rw [← hW0]; simp [go_sem]
  have hsz0 : w3.heap.size + 1 < W0.heap.size := by rw [← hW0]; simp
  rw [hW0]
  clear hW0
  have hw3 : w.heap.size < w2.heap.size := block_lt_of_cell c0
  have hal1 := below_mid hbm hal0
  have hB0 := below_mid hb3 hal1
  have f0 := frz hal1 c0 F0.out
  have f1 := frz hal1 c1 F1.out
  replace c0 := keep hal1 c0
  replace c1 := keep hal1 c1
  have hw2 : w.heap.size ≤ w2.heap.size := hb3.size
  have zc := keep hal1 z0
  have HMK0 := Lib.hid (ownsRow_stay hal0 HMK.out)
  clear hb3 hal0 hal1 z0 hbm HMK F0 F1
  refine wpIn_label ?_
  gi_wp2
  clear zc
  refine range_first (F := Fence.wide) rfl h1 (gf := 32) (fb := #[.slice a l.length cap]) rfl trivial (enters_of Try.func32 (by kernel_rfl) rfl)
    (each_in (n - 1) (by have := HNN.out; omega) l (.slice a l.length cap) w.heap.size W0 hB0.size (fun W hb => hR.stay (hB0.trans hb))) (Below.refl _ _) hB0.size (fun _ => rfl)
    (fun pre W => AddI w w3.heap.size w2.heap.size (fun s' out r => (out ++ addL (l.drop pre.length) s' = addL l ⟨fr, to⟩ ∧ s'.fr < s'.to ∧ out.length ≤ pre.length) ∧ r = l.length) W)
    (fun c _ W => c = .exit 0 ∧ AddI w w3.heap.size w2.heap.size (fun s' out r => ∃ k : Nat, (out ++ (s' :: l.drop k) = addL l ⟨fr, to⟩ ∧ s'.fr < s'.to ∧ out.length ≤ l.length) ∧ k ≤ l.length ∧ r = k) W)
    (fun s A B row hs hg hr => hs.kept hB0.size hg hr)
    (fun c s A B row hs hg hr => ⟨hs.1, hs.2.kept hB0.size hg hr⟩)
    ⟨⟨fr, to⟩, [], l.length, ⟨⟨rfl, (tak_ok HC.out).2.2.1, Nat.zero_le _⟩, rfl⟩, ⟨c0, c1, f0, f1⟩, ⟨e0.2.2.1, e0.2.2.2⟩, ⟨_, e0.1, e0.2.1, HMK0.out, fun b hb e => by simp [Value.ownBlock] at e hb; omega⟩, hB0, by omega⟩
    (fun x b => { tmps := #[.slice a l.length cap, .agg #[.int .i64 fr, .int .i64 to], undef, .pointer (some ⟨w.heap.size, 0, none⟩), .slice none 0 0, .pointer (some ⟨w1.heap.size, 0, none⟩), .pointer (some ⟨w3.heap.size, 0, none⟩), .pointer (some ⟨w3.heap.size + 1, 0, none⟩), .int .i64 (x : Nat), .pointer (some ⟨b, 0, none⟩), .slice a l.length cap, .agg #[.slice a l.length cap], .agg #[.slice a l.length cap], .agg #[.int .i64 fr, .int .i64 to], .bool true, .bool false, .slice a l.length cap, .int .i64 l.length, .int .i64 ((l.length : Int) + 1), .slice (some ⟨w2.heap.size, 0, none⟩) 0 (l.length + 1), .slice a l.length cap, .int .i64 l.length, .pointer (some ⟨w1.heap.size, 0, none⟩), .slice a l.length cap, .func (.func 32) #[.slice a l.length cap] #[], .int .i64 (x : Nat), spV (spAt l x), undef, undef, undef, undef, undef, undef, undef, undef, undef, undef, undef, undef, undef, undef, undef, undef, undef, undef, undef, undef, undef, undef, undef, undef, undef, undef, undef, undef, undef, undef, undef, undef, undef, undef, undef, undef], defers := [] })
    (fun x => .cells #[.int .i64 (spAt l x).fr, .int .i64 (spAt l x).to] 24) ?assign ?body ?done ?stop
  case assign =>
    intro lp x W K hK
    gi_wp2
    exact hK
  case body =>
    rintro lp pre x b W ⟨⟨sf, st⟩, out, rr, ⟨⟨heq, hne, hol⟩, rfl⟩, ⟨g0, g1, g2, g3⟩, ⟨r0, r1⟩, ⟨v0, o0, o1, o2, o3⟩, hB, hBW⟩ ⟨rfl, hx⟩ hbx hbw -
    have q0 : W.cell? ⟨b, 0, none⟩ = some (.int .i64 (spAt l pre.length).fr) := by simp [World.cell?, hbx]
    have q1 : W.cell? ⟨b, 1, none⟩ = some (.int .i64 (spAt l pre.length).to) := by simp [World.cell?, hbx]
    have HL := Lib.hid (show (pre ++ [pre.length]).length = pre.length + 1 by simp)
    rw [drop_at l pre.length hx] at heq
    have HEQ := Lib.hid heq
    have HD := Lib.hid (drop_at l pre.length hx)
    have HG := Lib.hid (show addL (spAt l pre.length :: l.drop (pre.length + 1)) ⟨sf, st⟩ = if (spAt l pre.length).to < sf then spAt l pre.length :: addL (l.drop (pre.length + 1)) ⟨sf, st⟩ else if st < (spAt l pre.length).fr then ⟨sf, st⟩ :: spAt l pre.length :: l.drop (pre.length + 1) else addL (l.drop (pre.length + 1)) (mrg ⟨sf, st⟩ (spAt l pre.length)) from rfl)
    clear hbx heq
    generalize spAt l pre.length = x at *
    obtain ⟨xf, xt⟩ := x
    simp only at q0 q1 HG hne g0 g1
    have hwl : w.heap.size < W.heap.size := block_lt_of_cell g0
    have hwo : v0.ownBlock ≠ some w.heap.size := fun e => by have := (o2.lt e).2; omega
    by_cases k1 : xt < sf
    · have HE2 := Lib.hid (show (out ++ [⟨xf, xt⟩]) ++ addL (l.drop (pre.length + 1)) ⟨sf, st⟩ = addL l ⟨fr, to⟩ by rw [← HEQ.out, HG.out, if_pos k1, List.append_assoc]; rfl)
      have hpw : Below W.heap.size W (W.alloc (.cells #[.int .i64 xf, .int .i64 xt] 24)) := (Below.refl _ _).alloc (Nat.le_refl _) _
      have HW3 := Lib.hid (ownsRow_stay hpw o2)
      have HO2 := Lib.hid o2
      have HO3 := Lib.hid o3
      have HWO := Lib.hid hwo
      obtain ⟨av, cv, rfl⟩ := o2.slice
      have HA3 := Lib.hid hpw
      clear o2 hwo o3 hpw
      have rb := run_bsS1
      have hbl : b < W.heap.size := block_lt_of_cell q0
      gi_wp2_with ((gi_at_builtin; refine (show _ = True → _ from fun h => of_eq_true h) ?_))
      refine eq_true ?_
      refine wpListIn_appS rfl (.tmp 44) (.tmp 46) rfl rfl HW3.out [⟨xf, xt⟩] rfl rfl (fun j u hj => by have := news2 W ⟨xf, xt⟩ 24 j u (by rw [← spcs_one]; exact hj); simpa using this) (by omega) (by have := HA3.out.size; omega) ?_
      intro v5 w5 hO5 hg5 hn5
      obtain ⟨rn, hrn⟩ : ∃ rn, rn = out ++ [(⟨xf, xt⟩ : Sp)] := ⟨_, rfl⟩
      rw [← hrn] at hO5 HE2
      have hrnl : rn.length ≤ out.length + 1 := by rw [hrn]; simp
      clear hrn
      obtain ⟨s1, s2, s3, s4, s5, s6, s7⟩ := stored2 o0 o1 HO2.out (HO3.out _ (by simp)) HA3.out hg5 hO5 hn5 hBW
      obtain ⟨a5, c5, rfl⟩ := hO5.slice
      have e7 := s7 (w3.heap.size + 1) (block_lt_of_cell r0) (by omega) (HO3.out _ (by simp))
      have e8 := s7 w.heap.size hwl (by omega) HWO.out
      have HO5 := Lib.hid s3
      have HN5 := Lib.hid s4
      have HK5 := Lib.hid s5
      have HB5 := Lib.hid s6
      have HE7 := Lib.hid e7
      have HE8 := Lib.hid e8
      clear hg5 hn5 hO5 s3 s4 s5 s6 s7 e7 e8 rb
      gi_wp2
      have hb5 := HB5.out w.heap.size hw2 (by omega)
      refine ⟨HK5.out, hb5, ⟨sf, st⟩, rn, l.length, ⟨⟨by rw [HL.out]; exact HE2.out, hne, by rw [HL.out]; omega⟩, rfl⟩, ⟨(World.cell?_of_block (a := ⟨w.heap.size, 0, none⟩) HE8.out).trans g0, (World.cell?_of_block (a := ⟨w.heap.size, 1, none⟩) HE8.out).trans g1, (World.frozen?_of_block (a := ⟨w.heap.size, 0, none⟩) HE8.out).trans g2, (World.frozen?_of_block (a := ⟨w.heap.size, 1, none⟩) HE8.out).trans g3⟩, ⟨(World.cell?_of_block (a := ⟨w3.heap.size + 1, 0, none⟩) HE7.out).trans r0, (World.frozen?_of_block (a := ⟨w3.heap.size + 1, 0, none⟩) HE7.out).trans r1⟩, ⟨_, HO5.out.1, HO5.out.2.1, HO5.out.2.2, fun b' hb' => ?_⟩, hB.trans hb5, Nat.le_trans hBW hb5.size⟩
      have hlt : b' < W.heap.size := by
        simp at hb'
        have h1 : w3.heap.size < W.heap.size := block_lt_of_cell o0
        have h2 : w3.heap.size + 1 < W.heap.size := block_lt_of_cell r0
        rcases hb' with rfl | rfl
        · exact h1
        · exact h2
      exact HN5.out b' hlt (HO3.out b' hb')
    · by_cases k2 : st < xf
      · have HE2 := Lib.hid (show out ++ (⟨sf, st⟩ :: l.drop pre.length) = addL l ⟨fr, to⟩ by rw [← HEQ.out, HG.out, if_neg k1, if_pos k2, HD.out])
        have HON := Lib.hid (show OutN w3.heap.size w2.heap.size [w3.heap.size, w3.heap.size + 1] out W from ⟨v0, o0, o1, o2, o3⟩)
        gi_wp2
        refine ⟨KeepsOthers.setCell _ _ _, rfl, ⟨sf, st⟩, out, pre.length, ⟨pre.length, ⟨HE2.out, hne, by omega⟩, by omega, rfl⟩, ⟨?_, ?_, ?_, ?_⟩, ⟨set_get r0, by rw [World.frozen?_setCell]; exact r1⟩, HON.out.set (by omega) (.inl (by simp)) _, hB.setCell (p := ⟨w3.heap.size + 1, 0, none⟩) (by simp; omega) _, by simp [World.setCell]; omega⟩
        · exact (World.cell?_of_block (a := ⟨w.heap.size, 0, none⟩) (Below.heap_setCell _ _ _ _ (by simp; omega))).trans g0
        · exact (World.cell?_of_block (a := ⟨w.heap.size, 1, none⟩) (Below.heap_setCell _ _ _ _ (by simp; omega))).trans g1
        · rw [World.frozen?_setCell]; exact g2
        · rw [World.frozen?_setCell]; exact g3
      · have HE2 := Lib.hid (show out ++ addL (l.drop (pre.length + 1)) ⟨min sf xf, max st xt⟩ = addL l ⟨fr, to⟩ by rw [← HEQ.out, HG.out, if_neg k1, if_neg k2]; rfl)
        have HON := Lib.hid (show OutN w3.heap.size w2.heap.size [w3.heap.size, w3.heap.size + 1] out W from ⟨v0, o0, o1, o2, o3⟩)
        clear o2 o3 hwo
        gi_wp2
        refine ⟨(KeepsOthers.setCell _ _ _).trans (KeepsOthers.setCell _ _ _), ((Below.refl w.heap.size W).setCell (p := ⟨w.heap.size, 0, none⟩) (Nat.le_refl _) _).setCell (p := ⟨w.heap.size, 1, none⟩) (Nat.le_refl _) _, ⟨min sf xf, max st xt⟩, out, l.length, ⟨⟨by rw [HL.out]; exact HE2.out, by simp only; omega, by rw [HL.out]; omega⟩, rfl⟩, ⟨?_, ?_, ?_, ?_⟩, ⟨?_, ?_⟩, (HON.out.set (by omega) (.inr (by omega)) _).set (by omega) (.inr (by omega)) _, (hB.setCell (p := ⟨w.heap.size, 0, none⟩) (Nat.le_refl _) _).setCell (p := ⟨w.heap.size, 1, none⟩) (Nat.le_refl _) _, by simp [World.setCell]; omega⟩
        · rw [set_cell2 _ _ _ _ _ (by omega)]; exact set_get g0
        · exact set_get1 (by rw [set_cell2 _ _ _ _ _ (by omega)]; exact g1)
        · rw [World.frozen?_setCell, World.frozen?_setCell]; exact g2
        · rw [World.frozen?_setCell, World.frozen?_setCell]; exact g3
        · exact (World.cell?_of_block (a := ⟨w3.heap.size + 1, 0, none⟩) ((Below.heap_setCell _ _ _ _ (by simp; omega)).trans (Below.heap_setCell _ _ _ _ (by simp; omega)))).trans r0
        · rw [World.frozen?_setCell, World.frozen?_setCell]; exact r1
  case done =>
    rintro D xs W hD hxs ⟨⟨sf, st⟩, out, rr, ⟨⟨heq, hne, hol⟩, rfl⟩, ⟨g0, g1, g2, g3⟩, ⟨r0, r1⟩, ⟨v0, o0, o1, o2, o3⟩, hB, hBW⟩ hK
    rw [hxs, List.drop_length] at heq
    rw [hxs] at hol
    obtain ⟨kr, hkr⟩ : ∃ kr : Nat, kr = l.length := ⟨_, rfl⟩
    replace heq : out ++ ((⟨sf, st⟩ : Sp) :: l.drop kr) = addL l ⟨fr, to⟩ := by rw [hkr, List.drop_length]; exact heq
    rw [← hkr] at r0
    have hkl : kr ≤ l.length := by omega
    clear hkr hxs
    simp only at g0 g1 hne
    have hwo : v0.ownBlock ≠ some w.heap.size := fun e => by have := (o2.lt e).2; omega
    have hobo := o3 w3.heap.size (by simp)
    have hrbo := o3 (w3.heap.size + 1) (by simp)
    have HO2 := Lib.hid o2
    obtain ⟨av, cv, rfl⟩ := o2.slice
    obtain ⟨Γ, hΓ⟩ : ∃ Γ, Γ = ghA W w2.heap.size (.slice av out.length cv) out (out ++ List.filter neB [⟨sf, st⟩]) ((out ++ List.filter neB [⟨sf, st⟩]) ++ (l.drop kr).filter neB) HO2.out := ⟨_, rfl⟩
    have HFR : ∀ vs w, Γ.inv vs w → W.grownBy w (Value.slice av out.length cv).ownBlock := fun vs w h => by rw [hΓ] at h; exact ghA_fr h
    have hst : Γ.inv [] W := by rw [hΓ]; exact Below.refl _ _
    have n0 : ∀ p : Γ.Wd, p.w.cell? ⟨w3.heap.size, 0, none⟩ = some (.slice av out.length cv) := fun p => fr_cell (HFR _ _ p.h) o0 hobo
    have n1 : ∀ p : Γ.Wd, p.w.cell? ⟨w.heap.size, 0, none⟩ = some (.int .i64 sf) := fun p => fr_cell (HFR _ _ p.h) g0 hwo
    have n2 : ∀ p : Γ.Wd, p.w.cell? ⟨w.heap.size, 1, none⟩ = some (.int .i64 st) := fun p => fr_cell (HFR _ _ p.h) g1 hwo
    have n3 : ∀ p : Γ.Wd, p.w.cell? ⟨w3.heap.size + 1, 0, none⟩ = some (.int .i64 kr) := fun p => fr_cell (HFR _ _ p.h) r0 hrbo
    have ne14 : Nonempty Γ.Wd := ⟨⟨[], W, hst⟩⟩
    have HGE := Lib.hid hΓ
    have HST := Lib.hid hst
    have HGF := Lib.hid HFR
    have HEQ := Lib.hid heq
    clear hΓ hst HFR heq o2 o3 hwo hobo hrbo
    gi_wp2
    rename_i K14 hK14
    refine wpIn_wide.2 ?_
    refine wp_region_H Γ 9 [3, 7] (by kernel_rfl) (by kernel_rfl) (by kernel_rfl) (by kernel_rfl) HST.out ?_
    simp only [List.take, List.drop]
    iterate 2 (refine wpH_want (by kernel_rfl) (by kernel_rfl) rfl rfl ?_; intro K hK; go_big_quiet_op; go_big_quiet_on)
    refine wpH_ex (gblk Γ W.heap.size (fun b => .slice (some ⟨b, 0, none⟩) 1 1) (.cells (spc ⟨sf, st⟩).toArray 24)) (gblk_lasts _ _ _ _) (by kernel_rfl) (by kernel_rfl) (fun a' g hg he => ?_) (fun d hd => ?_)
    · obtain ⟨h56, _⟩ := he
      have h56' : a'.eval (.tmp 56) = .agg #[.int .i64 sf, .int .i64 st] := h56
      refine wp_of_value (v := .slice (some ⟨g.w.heap.size, 0, none⟩) 1 1) (w' := g.w.alloc (.cells (spc ⟨sf, st⟩).toArray 24)) (run_v_ok ?_) ⟨_, rfl, (Below.refl _ _).alloc (Nat.le_refl _) _, gblk_new (V := fun b => .slice (some ⟨b, 0, none⟩) 1 1) _ hg (HGF.out _ _ hg).size⟩
      simp only [List.map_toArray, List.map_cons, List.map_nil, h56']
      exact run_bsS1 _ _ _
    cases hd
    simp only [List.nil_append]
    refine wpH_chainX 0 (gnth 0) (gnth_lasts _ _) (by kernel_rfl) (by kernel_rfl) (fun a' g hg hgl he => ?_) (fun d hd => ?_)
    · obtain ⟨h55, ⟨b57, h57, hB57, hc57, hn57⟩, _⟩ := he
      have h55' : a'.eval (.tmp 55) = .slice av out.length cv := h55
      have h57' : a'.eval (.tmp 57) = .slice (some ⟨b57, 0, none⟩) 1 1 := h57
      have hvs : g.vs = [] := List.eq_nil_of_length_eq_zero hgl
      rw [hvs, HGE.out] at hg
      rw [hvs, HGE.out]
      have hg' : Below W.heap.size W g.w := hg
      refine wp_of_call (f := 34) (args := #[.slice av out.length cv, .slice (some ⟨b57, 0, none⟩) 1 1]) (by simp [go_sem]; exact ⟨by simpa [Act.eval] using h55', by simpa [Act.eval] using h57'⟩) (with_any w2.heap.size out [⟨sf, st⟩] _ _ _ (ownsRow_stay hg' HO2.out) (RdS_block (l := [⟨sf, st⟩]) (by rw [spcs_one]; exact hc57) (by simp)) (fun a2 n2 c2 e _ e2 => by cases e; have := (HO2.out.lt e2).1; simp only at this; omega) (by have := hg'.size; omega) (by simp; omega)) ?_
      rintro v1 w' ⟨hO1, hg1, hn1⟩
      refine ⟨v1, rfl, ⟨⟨⟨hO1, near.trans hg'.size (near.refl _ _) hn1⟩, grownBy_trans (grownBy_of_below hg' _) hg1 (.inr (.inl rfl))⟩, hg1.size, fun k hk hko => hg1.block k hk (fun e => hko e.symm), fun k hk => ?_⟩, rfl⟩
      rcases hn1 with h | h | ⟨g2, h, hg2⟩
      · exact absurd (h.symm.trans hk) (by simp)
      · exact .inl (h.symm.trans hk)
      · exact .inr (by have := h.symm.trans hk; cases this; exact hg2)
    cases hd
    simp only [List.cons_append, List.nil_append]
    iterate 2 (refine wpH_want (by kernel_rfl) (by kernel_rfl) rfl rfl ?_; intro K hK; go_big_quiet_op; go_big_quiet_on)
    refine wpH_want (by kernel_rfl) (by kernel_rfl) rfl rfl ?_
    intro K hK
    go_big_quiet_op
    go_big_quiet_on
    refine wpH_chainX 1 (gnth 1) (gnth_lasts _ _) (by kernel_rfl) (by kernel_rfl) (fun a' g hg hgl he => ?_) (fun d hd => ?_)
    · obtain ⟨h58, h61, _⟩ := he
      have h61' : a'.eval (.tmp 61) = .slice (if cap = kr then a else a.map (fun x => x.add (kr * 2))) (l.length - kr) (cap - kr) := h61
      obtain ⟨v1, hvs⟩ := len1 hgl
      have h58' : g.vs[0]? = some (a'.eval (.tmp 58)) := h58
      rw [hvs] at h58'
      have h58'' : a'.eval (.tmp 58) = v1 := (Option.some.inj h58').symm
      have hfr := HGF.out _ _ hg
      rw [hvs, HGE.out] at hg
      rw [hvs, HGE.out]
      obtain ⟨⟨hO1, hn1⟩, _⟩ := (show (Owns g.w w2.heap.size v1 (out ++ List.filter neB [⟨sf, st⟩]) ∧ near W (.slice av out.length cv) v1) ∧ W.grownBy g.w (Value.slice av out.length cv).ownBlock from hg)
      have hRl : RdS g.w (.slice a l.length cap) l := (hR.stay hB).grown hfr (fun a2 n2 c2 e hn e2 => by
        cases e
        have h1 := (HO2.out.lt e2).2
        obtain ⟨_, _, e3, _, _, h4⟩ := hR
        cases e3
        obtain ⟨b9, o9, e9, h9⟩ := h4 hn
        cases e9
        have h5 := (h9 0 (by omega)).lt
        simp only at h1
        omega)
      have hdr := hRl.drop kr hkl
      have hfl : (List.filter neB [(⟨sf, st⟩ : Sp)]).length ≤ 1 := Nat.le_trans (List.length_filter_le _ _) (by simp)
      refine wp_of_call (f := 34) (args := #[v1, .slice (if cap = kr then a else a.map (fun x => x.add (kr * 2))) (l.length - kr) (cap - kr)]) (by simp [go_sem]; exact ⟨by simpa [Act.eval] using h58'', by simpa [Act.eval] using h61'⟩) (with_any w2.heap.size (out ++ List.filter neB [⟨sf, st⟩]) (l.drop kr) _ _ _ hO1 hdr (fun a2 n2 c2 e hn e2 => by
        have h1 := (hO1.lt e2).2
        obtain ⟨_, _, e3, _, _, h4⟩ := hdr
        rw [e3] at e
        cases e
        obtain ⟨b9, o9, e9, h9⟩ := h4 (by simpa using hn)
        obtain ⟨_, _, e3', _, _, h4'⟩ := hR
        cases e3'
        have hl0 : l.length ≠ 0 := by simp at hn; omega
        obtain ⟨b8, o8, e8, h8⟩ := h4' hl0
        have h5 := (h8 0 (by omega)).lt
        rw [e8] at e3
        rw [e9] at e3
        cases e9
        simp only [Value.slice.injEq] at e3
        have h6 := e3.1
        have h7 : b9 = b8 := by
          split at h6
          · cases h6; rfl
          · simp only [Option.map_some, Option.some.injEq] at h6
            unfold Addr.add at h6
            split at h6
            · cases h6; rfl
            · cases h6; rfl
        simp only at h1
        omega) (by have := hfr.size; omega) (by simp; omega)) ?_
      rintro v2 w' ⟨hO2, hg2, hn2⟩
      exact ⟨v2, rfl, ⟨⟨hO2, grownBy_trans hfr hg2 (by
        rcases hn1 with h | h | h
        · exact .inl h
        · exact .inr (.inl h)
        · exact .inr (.inr h))⟩, hg2.size, fun k hk hko => hg2.block k hk (fun e => hko e.symm), fun k hk => hk.elim⟩, rfl⟩
    cases hd
    simp only [List.cons_append, List.nil_append]
    refine wpH_ex (gnth 1) (gnth_lasts _ _) (by kernel_rfl) (by kernel_rfl) (fun a' g hg he => ?_) (fun d hd => ?_)
    · obtain ⟨h62, _⟩ := he
      exact wp_of_value (v := a'.eval (.tmp 62)) (w' := g.w) rfl ⟨_, rfl, Below.refl _ _, h62⟩
    cases hd
    simp only [List.cons_append, List.nil_append]
    refine wpH_nil (by kernel_rfl) (by simp) ?_
    rintro ⟨vs, w7⟩ hg hgl
    obtain ⟨v1, v2, rfl⟩ := len2 hgl
    have hfr := HGF.out _ _ hg
    rw [HGE.out] at hg
    obtain ⟨hO7, _⟩ := (show Owns w7 w2.heap.size v2 ((out ++ List.filter neB [⟨sf, st⟩]) ++ (l.drop kr).filter neB) ∧ W.grownBy w7 (Value.slice av out.length cv).ownBlock from hg)
    simp only [gexAll]
    rintro u57 - u58 - u62 - u4 h4
    have e4 : u4 = v2 := (Option.some.inj (show some v2 = some u4 from h4)).symm
    subst e4
    simp only [Act.put, List.setIfInBounds_toArray, List.set_cons_succ, List.set_cons_zero]
    have hfin : (out ++ List.filter neB [⟨sf, st⟩]) ++ (l.drop kr).filter neB = addL l ⟨fr, to⟩ := by
      rw [← HEQ.out, show List.filter neB [(⟨sf, st⟩ : Sp)] = [⟨sf, st⟩] from oneF_yes hne, filter_all (can_ne (tak_ok HC.out).1 kr), List.append_assoc]; rfl
    rw [hfin] at hO7
    have hK7 : w7.heap[D]? = some (.deferred (some [])) := (hfr.block D (Array.getElem?_eq_some_iff.1 hK).1 (fun e => by
      rcases HO2.out.2 with ⟨e', _⟩ | ⟨g', _, _, e', _, hgc, _⟩
      · rw [e'] at e; cases e
      · rw [e'] at e; simp [Value.ownBlock] at e; subst e; rw [hgc] at hK; cases hK)).trans hK
    have hb7 : Below w.heap.size w w7 := hB.grown hfr hB.size (fun g' e => by have := (HO2.out.lt e).2; omega)
    have HO7 := Lib.hid hO7
    have hal := addL_len l ⟨fr, to⟩
    clear n0 n1 n2 n3 ne14 hg hgl h4 hfr hfin hO7
    generalize (if cap = kr then a else Option.map (fun x => x.add (kr * 2)) a) = a61
    refine (show K14 _ _ from hK14 _ _ ?_)
    gi_wp2
    refine ⟨by simp, .inl ⟨_, _, rfl, run_takeDeferred hK7, ?_⟩⟩
    refine ⟨_, results_tmp rfl _ _ _, _, rfl, ?_, hb7.trans (belowK_b (w := w) (Nat.le_refl _) w7 D _ _ (by have := hB0.size; omega) hK7 rfl rfl)⟩
    rw [HR.out]
    exact Owns.rd (ownsRow_putObj HO7.out _ hK7 rfl) (by omega)
  case stop =>
    rintro D c pre W hD _ ⟨rfl, ⟨sf, st⟩, out, rr, ⟨kr, ⟨heq, hne, hol⟩, hkl, rfl⟩, ⟨g0, g1, g2, g3⟩, ⟨r0, r1⟩, ⟨v0, o0, o1, o2, o3⟩, hB, hBW⟩ hK
    simp only at g0 g1 hne
    have hwo : v0.ownBlock ≠ some w.heap.size := fun e => by have := (o2.lt e).2; omega
    have hobo := o3 w3.heap.size (by simp)
    have hrbo := o3 (w3.heap.size + 1) (by simp)
    have HO2 := Lib.hid o2
    obtain ⟨av, cv, rfl⟩ := o2.slice
    obtain ⟨Γ, hΓ⟩ : ∃ Γ, Γ = ghA W w2.heap.size (.slice av out.length cv) out (out ++ List.filter neB [⟨sf, st⟩]) ((out ++ List.filter neB [⟨sf, st⟩]) ++ (l.drop kr).filter neB) HO2.out := ⟨_, rfl⟩
    have HFR : ∀ vs w, Γ.inv vs w → W.grownBy w (Value.slice av out.length cv).ownBlock := fun vs w h => by rw [hΓ] at h; exact ghA_fr h
    have hst : Γ.inv [] W := by rw [hΓ]; exact Below.refl _ _
    have n0 : ∀ p : Γ.Wd, p.w.cell? ⟨w3.heap.size, 0, none⟩ = some (.slice av out.length cv) := fun p => fr_cell (HFR _ _ p.h) o0 hobo
    have n1 : ∀ p : Γ.Wd, p.w.cell? ⟨w.heap.size, 0, none⟩ = some (.int .i64 sf) := fun p => fr_cell (HFR _ _ p.h) g0 hwo
    have n2 : ∀ p : Γ.Wd, p.w.cell? ⟨w.heap.size, 1, none⟩ = some (.int .i64 st) := fun p => fr_cell (HFR _ _ p.h) g1 hwo
    have n3 : ∀ p : Γ.Wd, p.w.cell? ⟨w3.heap.size + 1, 0, none⟩ = some (.int .i64 kr) := fun p => fr_cell (HFR _ _ p.h) r0 hrbo
    have ne14 : Nonempty Γ.Wd := ⟨⟨[], W, hst⟩⟩
    have HGE := Lib.hid hΓ
    have HST := Lib.hid hst
    have HGF := Lib.hid HFR
    have HEQ := Lib.hid heq
    clear hΓ hst HFR heq o2 o3 hwo hobo hrbo
    gi_wp2
    rename_i K14 hK14
    refine wpIn_wide.2 ?_
    refine wp_region_H Γ 9 [3, 7] (by kernel_rfl) (by kernel_rfl) (by kernel_rfl) (by kernel_rfl) HST.out ?_
    simp only [List.take, List.drop]
    iterate 2 (refine wpH_want (by kernel_rfl) (by kernel_rfl) rfl rfl ?_; intro K hK; go_big_quiet_op; go_big_quiet_on)
    refine wpH_ex (gblk Γ W.heap.size (fun b => .slice (some ⟨b, 0, none⟩) 1 1) (.cells (spc ⟨sf, st⟩).toArray 24)) (gblk_lasts _ _ _ _) (by kernel_rfl) (by kernel_rfl) (fun a' g hg he => ?_) (fun d hd => ?_)
    · obtain ⟨h56, _⟩ := he
      have h56' : a'.eval (.tmp 56) = .agg #[.int .i64 sf, .int .i64 st] := h56
      refine wp_of_value (v := .slice (some ⟨g.w.heap.size, 0, none⟩) 1 1) (w' := g.w.alloc (.cells (spc ⟨sf, st⟩).toArray 24)) (run_v_ok ?_) ⟨_, rfl, (Below.refl _ _).alloc (Nat.le_refl _) _, gblk_new (V := fun b => .slice (some ⟨b, 0, none⟩) 1 1) _ hg (HGF.out _ _ hg).size⟩
      simp only [List.map_toArray, List.map_cons, List.map_nil, h56']
      exact run_bsS1 _ _ _
    cases hd
    simp only [List.nil_append]
    refine wpH_chainX 0 (gnth 0) (gnth_lasts _ _) (by kernel_rfl) (by kernel_rfl) (fun a' g hg hgl he => ?_) (fun d hd => ?_)
    · obtain ⟨h55, ⟨b57, h57, hB57, hc57, hn57⟩, _⟩ := he
      have h55' : a'.eval (.tmp 55) = .slice av out.length cv := h55
      have h57' : a'.eval (.tmp 57) = .slice (some ⟨b57, 0, none⟩) 1 1 := h57
      have hvs : g.vs = [] := List.eq_nil_of_length_eq_zero hgl
      rw [hvs, HGE.out] at hg
      rw [hvs, HGE.out]
      have hg' : Below W.heap.size W g.w := hg
      refine wp_of_call (f := 34) (args := #[.slice av out.length cv, .slice (some ⟨b57, 0, none⟩) 1 1]) (by simp [go_sem]; exact ⟨by simpa [Act.eval] using h55', by simpa [Act.eval] using h57'⟩) (with_any w2.heap.size out [⟨sf, st⟩] _ _ _ (ownsRow_stay hg' HO2.out) (RdS_block (l := [⟨sf, st⟩]) (by rw [spcs_one]; exact hc57) (by simp)) (fun a2 n2 c2 e _ e2 => by cases e; have := (HO2.out.lt e2).1; simp only at this; omega) (by have := hg'.size; omega) (by simp; omega)) ?_
      rintro v1 w' ⟨hO1, hg1, hn1⟩
      refine ⟨v1, rfl, ⟨⟨⟨hO1, near.trans hg'.size (near.refl _ _) hn1⟩, grownBy_trans (grownBy_of_below hg' _) hg1 (.inr (.inl rfl))⟩, hg1.size, fun k hk hko => hg1.block k hk (fun e => hko e.symm), fun k hk => ?_⟩, rfl⟩
      rcases hn1 with h | h | ⟨g2, h, hg2⟩
      · exact absurd (h.symm.trans hk) (by simp)
      · exact .inl (h.symm.trans hk)
      · exact .inr (by have := h.symm.trans hk; cases this; exact hg2)
    cases hd
    simp only [List.cons_append, List.nil_append]
    iterate 2 (refine wpH_want (by kernel_rfl) (by kernel_rfl) rfl rfl ?_; intro K hK; go_big_quiet_op; go_big_quiet_on)
    refine wpH_want (by kernel_rfl) (by kernel_rfl) rfl rfl ?_
    intro K hK
    go_big_quiet_op
    go_big_quiet_on
    refine wpH_chainX 1 (gnth 1) (gnth_lasts _ _) (by kernel_rfl) (by kernel_rfl) (fun a' g hg hgl he => ?_) (fun d hd => ?_)
    · obtain ⟨h58, h61, _⟩ := he
      have h61' : a'.eval (.tmp 61) = .slice (if cap = kr then a else a.map (fun x => x.add (kr * 2))) (l.length - kr) (cap - kr) := h61
      obtain ⟨v1, hvs⟩ := len1 hgl
      have h58' : g.vs[0]? = some (a'.eval (.tmp 58)) := h58
      rw [hvs] at h58'
      have h58'' : a'.eval (.tmp 58) = v1 := (Option.some.inj h58').symm
      have hfr := HGF.out _ _ hg
      rw [hvs, HGE.out] at hg
      rw [hvs, HGE.out]
      obtain ⟨⟨hO1, hn1⟩, _⟩ := (show (Owns g.w w2.heap.size v1 (out ++ List.filter neB [⟨sf, st⟩]) ∧ near W (.slice av out.length cv) v1) ∧ W.grownBy g.w (Value.slice av out.length cv).ownBlock from hg)
      have hRl : RdS g.w (.slice a l.length cap) l := (hR.stay hB).grown hfr (fun a2 n2 c2 e hn e2 => by
        cases e
        have h1 := (HO2.out.lt e2).2
        obtain ⟨_, _, e3, _, _, h4⟩ := hR
        cases e3
        obtain ⟨b9, o9, e9, h9⟩ := h4 hn
        cases e9
        have h5 := (h9 0 (by omega)).lt
        simp only at h1
        omega)
      have hdr := hRl.drop kr hkl
      have hfl : (List.filter neB [(⟨sf, st⟩ : Sp)]).length ≤ 1 := Nat.le_trans (List.length_filter_le _ _) (by simp)
      refine wp_of_call (f := 34) (args := #[v1, .slice (if cap = kr then a else a.map (fun x => x.add (kr * 2))) (l.length - kr) (cap - kr)]) (by simp [go_sem]; exact ⟨by simpa [Act.eval] using h58'', by simpa [Act.eval] using h61'⟩) (with_any w2.heap.size (out ++ List.filter neB [⟨sf, st⟩]) (l.drop kr) _ _ _ hO1 hdr (fun a2 n2 c2 e hn e2 => by
        have h1 := (hO1.lt e2).2
        obtain ⟨_, _, e3, _, _, h4⟩ := hdr
        rw [e3] at e
        cases e
        obtain ⟨b9, o9, e9, h9⟩ := h4 (by simpa using hn)
        obtain ⟨_, _, e3', _, _, h4'⟩ := hR
        cases e3'
        have hl0 : l.length ≠ 0 := by simp at hn; omega
        obtain ⟨b8, o8, e8, h8⟩ := h4' hl0
        have h5 := (h8 0 (by omega)).lt
        rw [e8] at e3
        rw [e9] at e3
        cases e9
        simp only [Value.slice.injEq] at e3
        have h6 := e3.1
        have h7 : b9 = b8 := by
          split at h6
          · cases h6; rfl
          · simp only [Option.map_some, Option.some.injEq] at h6
            unfold Addr.add at h6
            split at h6
            · cases h6; rfl
            · cases h6; rfl
        simp only at h1
        omega) (by have := hfr.size; omega) (by simp; omega)) ?_
      rintro v2 w' ⟨hO2, hg2, hn2⟩
      exact ⟨v2, rfl, ⟨⟨hO2, grownBy_trans hfr hg2 (by
        rcases hn1 with h | h | h
        · exact .inl h
        · exact .inr (.inl h)
        · exact .inr (.inr h))⟩, hg2.size, fun k hk hko => hg2.block k hk (fun e => hko e.symm), fun k hk => hk.elim⟩, rfl⟩
    cases hd
    simp only [List.cons_append, List.nil_append]
    refine wpH_ex (gnth 1) (gnth_lasts _ _) (by kernel_rfl) (by kernel_rfl) (fun a' g hg he => ?_) (fun d hd => ?_)
    · obtain ⟨h62, _⟩ := he
      exact wp_of_value (v := a'.eval (.tmp 62)) (w' := g.w) rfl ⟨_, rfl, Below.refl _ _, h62⟩
    cases hd
    simp only [List.cons_append, List.nil_append]
    refine wpH_nil (by kernel_rfl) (by simp) ?_
    rintro ⟨vs, w7⟩ hg hgl
    obtain ⟨v1, v2, rfl⟩ := len2 hgl
    have hfr := HGF.out _ _ hg
    rw [HGE.out] at hg
    obtain ⟨hO7, _⟩ := (show Owns w7 w2.heap.size v2 ((out ++ List.filter neB [⟨sf, st⟩]) ++ (l.drop kr).filter neB) ∧ W.grownBy w7 (Value.slice av out.length cv).ownBlock from hg)
    simp only [gexAll]
    rintro u57 - u58 - u62 - u4 h4
    have e4 : u4 = v2 := (Option.some.inj (show some v2 = some u4 from h4)).symm
    subst e4
    simp only [Act.put, List.setIfInBounds_toArray, List.set_cons_succ, List.set_cons_zero]
    have hfin : (out ++ List.filter neB [⟨sf, st⟩]) ++ (l.drop kr).filter neB = addL l ⟨fr, to⟩ := by
      rw [← HEQ.out, show List.filter neB [(⟨sf, st⟩ : Sp)] = [⟨sf, st⟩] from oneF_yes hne, filter_all (can_ne (tak_ok HC.out).1 kr), List.append_assoc]; rfl
    rw [hfin] at hO7
    have hK7 : w7.heap[D]? = some (.deferred (some [])) := (hfr.block D (Array.getElem?_eq_some_iff.1 hK).1 (fun e => by
      rcases HO2.out.2 with ⟨e', _⟩ | ⟨g', _, _, e', _, hgc, _⟩
      · rw [e'] at e; cases e
      · rw [e'] at e; simp [Value.ownBlock] at e; subst e; rw [hgc] at hK; cases hK)).trans hK
    have hb7 : Below w.heap.size w w7 := hB.grown hfr hB.size (fun g' e => by have := (HO2.out.lt e).2; omega)
    have HO7 := Lib.hid hO7
    have hal := addL_len l ⟨fr, to⟩
    clear n0 n1 n2 n3 ne14 hg hgl h4 hfr hfin hO7
    generalize (if cap = kr then a else Option.map (fun x => x.add (kr * 2)) a) = a61
    refine (show K14 _ _ from hK14 _ _ ?_)
    gi_wp2
    refine ⟨by simp, .inl ⟨_, _, rfl, run_takeDeferred hK7, ?_⟩⟩
    refine ⟨_, results_tmp rfl _ _ _, _, rfl, ?_, hb7.trans (belowK_b (w := w) (Nat.le_refl _) w7 D _ _ (by have := hB0.size; omega) hK7 rfl rfl)⟩
    rw [HR.out]
    exact Owns.rd (ownsRow_putObj HO7.out _ hK7 rfl) (by omega)

theorem add_any (l : List Sp) (s : Sp) (v : Value) (w : World) (h : RdS w v l) (hll : l.length ≤ 1000) : Calls Try.prog 17 #[v, spV s] w (ListPost w (addF l s)) := by
  cases hc : takB l s
  · exact add_no l s v w h hc
  · exact add_yes l s v w h hll hc

end Go.Proofs.Ythkkhgfdppbphaa
