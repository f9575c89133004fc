/- A machine of symbolic values: the evaluator and its soundness. -/
import Derived.Test.YthdnonoheochhaaGreatDoorVb
import Derived.OrdersIn
import Derived.RangeFuncRecord
import Derived.RangeFuncLeaves
import Derived.Scope
namespace Go.Proofs.YthdnonoheochhaaGreatDoor
open Go.RowKit
set_option linter.unusedVariables false
def msk (o : Oper) (acc : List Nat) : Nat := o.after.toList.foldl (fun s e => match Region.binds .any e with
  | true => s ||| (2 ^ e.on ||| acc.getD e.on 0)
  | false => s) 0
def befs : List Oper → List Nat → List Nat
  | [], acc => acc
  | o :: r, acc => befs r (acc ++ [msk o acc])
def drawOK (ops : Array Oper) : Bool :=
  let bf := befs ops.toList []
  ops.toList.zipIdx.all fun (o, i) =>
    (o.after.toList.all fun e => !Region.binds .any e || Nat.blt e.on i) &&
    ops.toList.zipIdx.all fun (p, j) => match p.dst with
      | none => true
      | some d => Nat.beq i j || (!(o.dst == some d) && (!(o.looksAt ops).contains d || ((bf.getD i 0).testBit j && Nat.blt j i)))
noncomputable def obit (d : Option Tmp) : Nat := @Option.rec Nat (fun _ => Nat) 0 (fun d => Nat.shiftLeft 1 d) d
noncomputable def rfold {β : Type} (f : Nat → β → Nat) : List β → Nat → Nat := @List.rec β (fun _ => Nat → Nat) (fun s => s) (fun x _ ih s => ih (f s x))
theorem rfold_eq {β : Type} (f : Nat → β → Nat) : ∀ (l : List β) (s : Nat), rfold f l s = l.foldl f s
  | [], s => rfl
  | x :: l, s => rfold_eq f l (f s x)
noncomputable def mskQ (a : List Nat) (s : Nat) (e : Edge) : Nat := @Bool.rec (fun _ => Nat) s (Nat.lor s (Nat.lor (Nat.shiftLeft 1 e.on) (rgd 0 a e.on))) (Region.binds .any e)
noncomputable def mskD (ds b : List Nat) (s : Nat) (e : Edge) : Nat := @Bool.rec (fun _ => Nat) s (Nat.lor s (Nat.lor (rgd 0 ds e.on) (rgd 0 b e.on))) (Region.binds .any e)
noncomputable def lookM (ops : Array Oper) (o : Oper) : Nat := rfold (fun s t => Nat.lor s (Nat.shiftLeft 1 t)) (o.looksAt ops) 0
noncomputable def aftQ (i : Nat) (l : List Edge) : Bool := rall (fun e => @Bool.rec (fun _ => Bool) true (Nat.blt e.on i) (Region.binds .any e)) l
noncomputable def goQ (ops : Array Oper) (all : Nat) : List Oper → Nat → Nat → List Nat → List Nat → List Nat → Bool :=
  @List.rec Oper (fun _ => Nat → Nat → List Nat → List Nat → List Nat → Bool) (fun _ _ _ _ _ => true) (fun o _ ih i seen ds a b =>
    (fun dm => @Bool.rec (fun _ => Bool) false (@Bool.rec (fun _ => Bool) false (@Bool.rec (fun _ => Bool) false (ih (Nat.succ i) (Nat.lor seen (obit o.dst)) (rapp ds [obit o.dst]) (rapp a [rfold (mskQ a) o.after.toList 0]) (rapp b [dm]))
      (Nat.beq (Nat.land (lookM ops o) all) (Nat.land (Nat.land (lookM ops o) all) (Nat.lor dm (obit o.dst)))))
      (Nat.beq (Nat.land seen (obit o.dst)) 0)) (aftQ i o.after.toList)) (rfold (mskD ds b) o.after.toList 0))
noncomputable def allD : List Oper → Nat := @List.rec Oper (fun _ => Nat) 0 (fun o _ ih => Nat.lor (obit o.dst) ih)
noncomputable def drawQ (ops : Array Oper) : Bool := goQ ops (allD ops.toList) ops.toList 0 0 [] [] []
noncomputable def befQ : List Oper → List Nat → List Nat := @List.rec Oper (fun _ => List Nat → List Nat) (fun a => a) (fun o _ ih a => ih (rapp a [rfold (mskQ a) o.after.toList 0]))
theorem mskQ_eq (a : List Nat) (s : Nat) (e : Edge) : mskQ a s e = match Region.binds .any e with
    | true => s ||| (2 ^ e.on ||| a.getD e.on 0)
    | false => s := by
  unfold mskQ
  rw [rgd_eq]
  cases Region.binds .any e with
  | true =>
    show s ||| ((1 <<< e.on) ||| a.getD e.on 0) = _
    rw [Nat.one_shiftLeft]
  | false => rfl
theorem fold_msk (o : Oper) (a : List Nat) : rfold (mskQ a) o.after.toList 0 = msk o a := by
  rw [rfold_eq]
  unfold msk
  congr 1
  funext s e
  exact mskQ_eq a s e
theorem befQ_eq : ∀ (l : List Oper) (a : List Nat), befQ l a = befs l a
  | [], a => rfl
  | o :: l, a => by
    show befQ l (rapp a [rfold (mskQ a) o.after.toList 0]) = befs l (a ++ [msk o a])
    rw [rapp_eq, fold_msk, befQ_eq l]
theorem obit_bit (d : Option Tmp) (t : Nat) : (obit d).testBit t = true ↔ d = some t := by
  cases d with
  | none => simp [obit]
  | some d =>
    show (Nat.shiftLeft 1 d).testBit t = true ↔ _
    rw [bit1]; simp
theorem lookM_bit (ops : Array Oper) (o : Oper) (t : Nat) : (lookM ops o).testBit t = true ↔ t ∈ o.looksAt ops := by
  unfold lookM
  rw [rfold_eq]
  have key : ∀ (l : List Tmp) (s : Nat), (l.foldl (fun s t => Nat.lor s (Nat.shiftLeft 1 t)) s).testBit t = true ↔ s.testBit t = true ∨ t ∈ l := by
    intro l
    induction l with
    | nil => intro s; simp
    | cons u l ih =>
      intro s
      rw [List.foldl_cons, ih, lor_bit, bit1]
      simp only [Bool.or_eq_true, decide_eq_true_eq, List.mem_cons, or_assoc]
      constructor
      · rintro (h | h | h)
        · exact .inl h
        · exact .inr (.inl h.symm)
        · exact .inr (.inr h)
      · rintro (h | h | h)
        · exact .inl h
        · exact .inr (.inl h.symm)
        · exact .inr (.inr h)
  rw [key]; simp
theorem allD_bit : ∀ (l : List Oper) (t : Nat), (allD l).testBit t = true ↔ ∃ o ∈ l, o.dst = some t
  | [], t => by simp [allD]
  | o :: l, t => by
    show (Nat.lor (obit o.dst) (allD l)).testBit t = true ↔ _
    rw [lor_bit, Bool.or_eq_true, obit_bit, allD_bit l t]
    simp
theorem mskD_bit {ds b a : List Nat} {i : Nat} (hlen : ds.length = i ∧ b.length = i ∧ a.length = i)
    (hb : ∀ j, j < i → ∀ t, (b.getD j 0).testBit t = true → ∃ k, k < j ∧ (a.getD j 0).testBit k = true ∧ (ds.getD k 0).testBit t = true) :
    ∀ (l : List Edge), aftQ i l = true → ∀ s sm, (∀ t, s.testBit t = true → ∃ k, k < i ∧ Nat.testBit sm k = true ∧ (ds.getD k 0).testBit t = true) →
      ∀ t, (l.foldl (mskD ds b) s).testBit t = true → ∃ k, k < i ∧ (l.foldl (mskQ a) sm).testBit k = true ∧ (ds.getD k 0).testBit t = true
  | [], _, s, sm, hs, t, h => hs t h
  | e :: l, hl, s, sm, hs, t, h => by
    unfold aftQ at hl
    rw [rall_eq, List.all_cons, Bool.and_eq_true] at hl
    obtain ⟨h1, h2⟩ := hl
    have h2' : aftQ i l = true := by unfold aftQ; rw [rall_eq]; exact h2
    rw [List.foldl_cons] at h ⊢
    refine mskD_bit hlen hb l h2' _ _ (fun t ht => ?_) t h
    have hsm : ∀ k, sm.testBit k = true → (mskQ a sm e).testBit k = true := fun k hk => by
      unfold mskQ
      cases Region.binds .any e with
      | true =>
        show (Nat.lor sm _).testBit k = true
        rw [lor_bit, hk]; rfl
      | false => exact hk
    unfold mskD at ht
    cases hbd : Region.binds .any e with
    | false =>
      rw [hbd] at ht
      obtain ⟨k, hk1, hk2, hk3⟩ := hs t ht
      exact ⟨k, hk1, hsm k hk2, hk3⟩
    | true =>
      rw [hbd] at ht h1
      have hlt : e.on < i := by simpa using (show Nat.blt e.on i = true from h1)
      have ht : (Nat.lor s (Nat.lor (rgd 0 ds e.on) (rgd 0 b e.on))).testBit t = true := ht
      rw [lor_bit, lor_bit, Bool.or_eq_true, Bool.or_eq_true, rgd_eq, rgd_eq] at ht
      have hq : ∀ k, (k = e.on ∨ (a.getD e.on 0).testBit k = true) → (mskQ a sm e).testBit k = true := fun k hk => by
        unfold mskQ
        rw [hbd]
        show (Nat.lor sm (Nat.lor (Nat.shiftLeft 1 e.on) (rgd 0 a e.on))).testBit k = true
        rw [lor_bit, lor_bit, bit1, rgd_eq]
        simp only [Bool.or_eq_true, decide_eq_true_eq]
        rcases hk with hk | hk
        · exact .inr (.inl hk.symm)
        · exact .inr (.inr hk)
      rcases ht with ht | ht | ht
      · obtain ⟨k, hk1, hk2, hk3⟩ := hs t ht
        exact ⟨k, hk1, hsm k hk2, hk3⟩
      · exact ⟨e.on, hlt, hq _ (.inl rfl), ht⟩
      · obtain ⟨k, hk1, hk2, hk3⟩ := hb e.on hlt t ht
        exact ⟨k, by omega, hq _ (.inr hk2), hk3⟩
theorem getD_app {l m : List Nat} {i : Nat} : (l ++ m).getD i 0 = if i < l.length then l.getD i 0 else m.getD (i - l.length) 0 := by
  rw [List.getD_eq_getElem?_getD]
  split
  · rename_i h; rw [List.getElem?_append_left h, List.getD_eq_getElem?_getD]
  · rename_i h; rw [List.getElem?_append_right (by omega), List.getD_eq_getElem?_getD]
theorem befs_pre : ∀ (l : List Oper) (a : List Nat), ∃ r, befs l a = a ++ r
  | [], a => ⟨[], by simp [befs]⟩
  | o :: l, a => by
    obtain ⟨r, h⟩ := befs_pre l (a ++ [msk o a])
    exact ⟨msk o a :: r, by rw [befs, h]; simp⟩
theorem goQ_spec {ops : Array Oper} {all : Nat} : ∀ (l : List Oper) (i seen : Nat) (ds a b : List Nat) (pre : List Oper), pre.length = i → ds = pre.map (fun o => obit o.dst) → b.length = i → a.length = i →
    (∀ t, seen.testBit t = true ↔ ∃ o ∈ pre, o.dst = some t) →
    (∀ j, j < i → ∀ t, (b.getD j 0).testBit t = true → ∃ k, k < j ∧ (a.getD j 0).testBit k = true ∧ (ds.getD k 0).testBit t = true) →
    goQ ops all l i seen ds a b = true →
    ∀ k o, l[k]? = some o → (∀ e ∈ o.after, Region.binds .any e = true → e.on < i + k) ∧ (∀ t, o.dst = some t → ∀ p ∈ pre ++ l.take k, p.dst ≠ some t) ∧
      ∀ t ∈ o.looksAt ops, all.testBit t = true → o.dst = some t ∨ ∃ j p, j < i + k ∧ (pre ++ l)[j]? = some p ∧ p.dst = some t ∧ ((befs l a).getD (i + k) 0).testBit j = true
  | [], i, seen, ds, a, b, pre, _, _, _, _, _, _, _ => fun k o h => by simp at h
  | o :: l, i, seen, ds, a, b, pre, h1, h2, h3, h4, h5, h6, hg => by
    have hg' : @Bool.rec (fun _ => Bool) false (@Bool.rec (fun _ => Bool) false (@Bool.rec (fun _ => Bool) false (goQ ops all l (Nat.succ i) (Nat.lor seen (obit o.dst)) (rapp ds [obit o.dst]) (rapp a [rfold (mskQ a) o.after.toList 0]) (rapp b [rfold (mskD ds b) o.after.toList 0]))
      (Nat.beq (Nat.land (lookM ops o) all) (Nat.land (Nat.land (lookM ops o) all) (Nat.lor (rfold (mskD ds b) o.after.toList 0) (obit o.dst)))))
      (Nat.beq (Nat.land seen (obit o.dst)) 0)) (aftQ i o.after.toList) = true := hg
    cases hA : aftQ i o.after.toList with
    | false => rw [hA] at hg'; cases hg'
    | true =>
    rw [hA] at hg'
    cases hS : Nat.beq (Nat.land seen (obit o.dst)) 0 with
    | false => rw [hS] at hg'; cases hg'
    | true =>
    rw [hS] at hg'
    cases hL : Nat.beq (Nat.land (lookM ops o) all) (Nat.land (Nat.land (lookM ops o) all) (Nat.lor (rfold (mskD ds b) o.after.toList 0) (obit o.dst))) with
    | false => rw [hL] at hg'; cases hg'
    | true =>
    rw [hL] at hg'
    have hgo : goQ ops all l (Nat.succ i) (Nat.lor seen (obit o.dst)) (rapp ds [obit o.dst]) (rapp a [rfold (mskQ a) o.after.toList 0]) (rapp b [rfold (mskD ds b) o.after.toList 0]) = true := hg'
    rw [rapp_eq, rapp_eq, rapp_eq, fold_msk] at hgo
    have hdl : ds.length = i := by rw [h2, List.length_map, h1]
    have hD := mskD_bit ⟨hdl, h3, h4⟩ h6 o.after.toList hA 0 0 (fun t ht => by simp at ht)
    have hm : o.after.toList.foldl (mskQ a) 0 = msk o a := by rw [← rfold_eq]; exact fold_msk o a
    rw [hm, ← rfold_eq] at hD
    have hb' : ∀ j, j < i + 1 → ∀ t, ((b ++ [rfold (mskD ds b) o.after.toList 0]).getD j 0).testBit t = true → ∃ k, k < j ∧ ((a ++ [msk o a]).getD j 0).testBit k = true ∧ ((ds ++ [obit o.dst]).getD k 0).testBit t = true := fun j hj t ht => by
      rw [getD_app] at ht
      split at ht
      · rename_i hlt
        obtain ⟨k, k1, k2, k3⟩ := h6 j (by omega) t ht
        refine ⟨k, k1, ?_, ?_⟩
        · rw [getD_app, if_pos (by omega)]; exact k2
        · rw [getD_app, if_pos (by omega)]; exact k3
      · have hji : j = i := by omega
        subst hji
        rw [h3, Nat.sub_self] at ht
        obtain ⟨k, k1, k2, k3⟩ := hD t ht
        refine ⟨k, k1, ?_, ?_⟩
        · rw [getD_app, if_neg (by omega), h4, Nat.sub_self]; exact k2
        · rw [getD_app, if_pos (by omega)]; exact k3
    have ih := goQ_spec l (i + 1) (Nat.lor seen (obit o.dst)) (ds ++ [obit o.dst]) (a ++ [msk o a]) (b ++ [rfold (mskD ds b) o.after.toList 0]) (pre ++ [o]) (by simp [h1]) (by rw [h2]; simp) (by simp [h3]) (by simp [h4]) (fun t => by
      rw [lor_bit, Bool.or_eq_true, h5, obit_bit]
      constructor
      · rintro (⟨p, hp, hd⟩ | hd)
        · exact ⟨p, List.mem_append_left _ hp, hd⟩
        · exact ⟨o, by simp, hd⟩
      · rintro ⟨p, hp, hd⟩
        rcases List.mem_append.1 hp with hp | hp
        · exact .inl ⟨p, hp, hd⟩
        · rw [List.mem_singleton.1 hp] at hd; exact .inr hd) hb' hgo
    intro k p hk
    cases k with
    | zero =>
      obtain rfl : o = p := by simpa using hk
      refine ⟨fun e he hbd => ?_, fun t ht q hq hqt => ?_, fun t ht hall => ?_⟩
      · unfold aftQ at hA
        rw [rall_eq, List.all_eq_true] at hA
        have := hA e (by simpa using he)
        rw [hbd] at this
        simpa using (show Nat.blt e.on i = true from this)
      · simp only [List.take_zero, List.append_nil] at hq
        have hs : seen.testBit t = true := (h5 t).2 ⟨q, hq, hqt⟩
        have hz := Nat.eq_of_beq_eq_true hS
        have hbit : (Nat.land seen (obit o.dst)).testBit t = (seen.testBit t && (obit o.dst).testBit t) := Nat.testBit_and _ _ _
        rw [hz, hs, (obit_bit _ _).2 ht] at hbit
        simp at hbit
      · have hz := Nat.eq_of_beq_eq_true hL
        have hbit : (Nat.land (Nat.land (lookM ops o) all) (Nat.lor (rfold (mskD ds b) o.after.toList 0) (obit o.dst))).testBit t = (((lookM ops o).testBit t && all.testBit t) && ((rfold (mskD ds b) o.after.toList 0).testBit t || (obit o.dst).testBit t)) := by
          rw [show ∀ x y : Nat, (Nat.land x y).testBit t = (x.testBit t && y.testBit t) from fun x y => Nat.testBit_and x y t, show ∀ x y : Nat, (Nat.land x y).testBit t = (x.testBit t && y.testBit t) from fun x y => Nat.testBit_and x y t, lor_bit]
        rw [← hz, show (Nat.land (lookM ops o) all).testBit t = ((lookM ops o).testBit t && all.testBit t) from Nat.testBit_and _ _ t, (lookM_bit ops o t).2 ht, hall] at hbit
        have hbit := hbit.symm
        simp only [Bool.and_self, Bool.true_and, Bool.or_eq_true] at hbit
        rcases hbit with hbit | hbit
        · obtain ⟨j, j1, j2, j3⟩ := hD t hbit
          refine .inr ⟨j, ?_⟩
          rw [h2] at j3
          have hjl : j < pre.length := by omega
          have hget : pre[j]? = some pre[j] := List.getElem?_eq_getElem hjl
          rw [List.getD_eq_getElem?_getD, List.getElem?_map, hget] at j3
          simp only [Option.map_some, Option.getD_some, obit_bit] at j3
          obtain ⟨r, hr⟩ := befs_pre l (a ++ [msk o a])
          refine ⟨pre[j], by omega, by rw [List.getElem?_append_left hjl]; exact hget, j3, ?_⟩
          rw [befs, hr, Nat.add_zero, getD_app, if_pos (by simp; omega), getD_app, if_neg (by omega), h4, Nat.sub_self]
          exact j2
        · exact .inl ((obit_bit _ _).1 hbit)
    | succ k =>
      obtain ⟨q1, q2, q3⟩ := ih k p (by simpa using hk)
      refine ⟨fun e he hbd => by have := q1 e he hbd; omega, fun t ht q hq => q2 t ht q (by simpa using hq), fun t ht hall => ?_⟩
      rcases q3 t ht hall with h | ⟨j, p', j1, j2, j3, j4⟩
      · exact .inl h
      · refine .inr ⟨j, p', by omega, by simpa using j2, j3, ?_⟩
        rw [befs, show i + (k + 1) = i + 1 + k by omega]
        exact j4
theorem drawQ_ok {ops : Array Oper} (h : drawQ ops = true) : drawOK ops = true := by
  have hs := goQ_spec ops.toList 0 0 [] [] [] [] rfl rfl rfl rfl (fun t => by simp) (fun j hj => by omega) h
  simp only [Nat.zero_add, List.nil_append] at hs
  unfold drawOK
  simp only [List.all_eq_true, Prod.forall, Bool.and_eq_true]
  intro o i hi
  have hi' : ops.toList[i]? = some o := by
    have := List.mem_iff_getElem?.1 hi
    obtain ⟨m, hm⟩ := this
    rw [List.getElem?_zipIdx] at hm
    cases hq : ops.toList[m]? with
    | none => rw [hq] at hm; simp at hm
    | some x => rw [hq] at hm; simp at hm; obtain ⟨rfl, rfl⟩ := hm; exact hq
  obtain ⟨q1, q2, q3⟩ := hs i o hi'
  refine ⟨fun e he => ?_, fun p j hj => ?_⟩
  · cases hb : Region.binds .any e with
    | false => rfl
    | true =>
      have := q1 e (by simpa using he) hb
      simp only [Bool.not_true, Bool.false_or]
      rw [blt_dec]; exact decide_eq_true this
  · have hj' : ops.toList[j]? = some p := by
      obtain ⟨m, hm⟩ := List.mem_iff_getElem?.1 hj
      rw [List.getElem?_zipIdx] at hm
      cases hq : ops.toList[m]? with
      | none => rw [hq] at hm; simp at hm
      | some x => rw [hq] at hm; simp at hm; obtain ⟨rfl, rfl⟩ := hm; exact hq
    cases hd : p.dst with
    | none => rfl
    | some d =>
      simp only [Bool.or_eq_true, Bool.and_eq_true]
      by_cases hij : i = j
      · left; subst hij; exact Nat.beq_refl i
      · right
        -- no two make the same
        have hne : ∀ x y : Nat, ∀ ox oy : Oper, x < y → ops.toList[x]? = some ox → ops.toList[y]? = some oy → ∀ t, oy.dst = some t → ox.dst ≠ some t := fun x y ox oy hxy hx hy t ht => by
          have := (hs y oy hy).2.1 t ht ox
          exact this (List.mem_iff_getElem?.2 ⟨x, by rw [List.getElem?_take, if_pos hxy]; exact hx⟩)
        have hod : o.dst ≠ some d := fun e => by
          rcases Nat.lt_or_ge i j with hlt | hge
          · exact hne i j o p hlt hi' hj' d hd e
          · exact hne j i p o (by omega) hj' hi' d e hd
        refine ⟨by simpa using hod, ?_⟩
        by_cases hl : d ∈ o.looksAt ops
        · right
          have hall : (allD ops.toList).testBit d = true := (allD_bit _ _).2 ⟨p, List.mem_of_getElem? hj', hd⟩
          rcases q3 d hl hall with h1 | ⟨j2, p2, j1, g1, g2, g3⟩
          · exact (hod h1).elim
          · have : j2 = j := by
              rcases Nat.lt_trichotomy j2 j with hlt | he | hgt
              · exact (hne j2 j p2 p hlt g1 hj' d hd g2).elim
              · exact he
              · exact (hne j j2 p p2 hgt hj' g1 d g2 hd).elim
            subst this
            exact ⟨g3, by rw [blt_dec]; exact decide_eq_true j1⟩
        · left
          simpa using hl
end Go.Proofs.YthdnonoheochhaaGreatDoor
namespace Go.Proofs.YthdnonoheochhaaGreatDoor
open Go.RowKit
set_option linter.unusedVariables false
section
variable {A : Type}
noncomputable def slot (N : Nat) (s : Nd V) (t : Nat) : V := match Nat.blt t N with
  | true => s.get undV (lev N) t
  | false => undV
noncomputable def evx (N : Nat) (s : Nd V) : Operand → V
  | .tmp t => slot N s t
  | .const v => ofV false v
  | .global g => .lit (.pointer (some ⟨g, 0, none⟩))
  | .func f => .fn (.func f) [] []
noncomputable def setS (N : Nat) (s : Nd V) (d : Nat) (v : V) : Nd V := match Nat.blt d N with
  | true => s.put v (lev N) d
  | false => s
noncomputable def putT (N : Nat) (s : Nd V) (d : Option Tmp) (v : V) : Nd V := match d with
  | some d => setS N s d v
  | none => s
def kv (k : V → T A) (r : RT) : T A := match r.l with
  | [v] => k v
  | _ => .fail 86
def guardV (v : V) (want : Bool) (k : Bool → T A) : T A := match v with
  | .bool s b => (match s with
    | true => .ask b fun y => k (y == want)
    | false => k (b == want))
  | .lit (.tuple _) => k false
  | _ => .fail 70
noncomputable def guardD (N : Nat) (o : Oper) (ops : Array Oper) (s : Nd V) (k : Bool → T A) : T A := match o.guard with
  | none => k true
  | some (j, want) => (match (ops[j]?).bind (·.dst) with
    | some d => guardV (slot N s d) want k
    | none => .fail 71)
def packV : List V → V
  | [v] => v
  | l => .tup l.reverse
noncomputable def resT (P : Program) (N : Nat) (s : Nd V) : List ResultVar → List V → T A
  | [], acc => .ret (rv (packV acc))
  | .tmp t :: rs, acc => resT P N s rs (slot N s t :: acc)
  | .cell a t :: rs, acc => (evLoad P t (slot N s a)).bind (kv fun v => resT P N s rs (v :: acc))
def apartL (a b : Lg) : Bool := Nat.beq (Nat.land a.w b.w) 0 && (Nat.beq (Nat.land a.w b.t) 0 && Nat.beq (Nat.land a.t b.w) 0)
def quietL (acc : List (Nat × Lg)) : Bool := acc.all fun p => Nat.beq p.2.w 0
def confOK (bf : List Nat) (acc : List (Nat × Lg)) : Bool :=
  quietL acc || acc.all fun (j, lj) => acc.all fun (i, li) => !Nat.blt i j || ((bf.getD j 0).testBit i || apartL li lj)
def addL (i : Nat) (l : Lg) (acc : List (Nat × Lg)) : List (Nat × Lg) := match Nat.beq l.t 0 && Nat.beq l.w 0 with
  | true => acc
  | false => (i, l) :: acc
def drawT (t : T A) (k1 : V → T A) (k2 : Lg → V → T A) : T A := match t with
  | .ret r => kv k1 r
  | t => .scope t fun r lg => kv (k2 lg) r
def jumpOf : Ex → Option Code
  | .normal => none
  | .exit j => some (.exit j)
  | .ret => some .ret
noncomputable def foldT (N : Nat) : List Tmp → List V → Nd V → Nd V
  | t :: ts, v :: vs, s => foldT N ts vs (setS N s t v)
  | _, _, s => s
abbrev cr (x : Ex) (s : Nd V) (ds : List Nat) : RT := ⟨x, [], s, ds⟩
def rfJ (k : List Nat → Code → T A) (s : Nd V) (ds : List Nat) : Option Code → T A
  | none => .ret (cr .normal s ds)
  | some c => k ds c
def rfEnd (k : List Nat → Code → T A) (n m : Nat) (s : Nd V) (ds : List Nat) (p : Pl A) : T A := match p with
  | .loop st pe _ _ _ _ _ => (match st with
    | .busy => .fail 710
    | _ => .put n .none (rfJ k s (m :: ds) pe))
  | _ => .fail 711
def yEnd (n : Nat) (x : Ex) : T A := .get n fun
  | .loop .busy _ N tm ps assign body => .put n (.loop (match jumpOf x with | none => .ready | some _ => .done) (jumpOf x) N tm ps assign body) (.ret (rv (.bool false (jumpOf x).isNone)))
  | _ => .fail 720
def yMid (bt : T A) (n : Nat) (r : RT) : T A := match r.x, r.ds with
  | .normal, [] => .get n fun
    | .loop .ready pe N tm ps assign b => .put n (.loop .busy pe N tm ps assign b) (bt.bind fun r => yEnd n r.x)
    | _ => .fail 721
  | _, _ => .fail 722
def finT (t : T A) : List Nat → T A
  | [] => t
  | m :: ds => .get m fun
    | .mark => .put m .none (finT t ds)
    | _ => .fail 730
structure SR (A : Type) where
  code : Nat → Bool → Code → Nd V → List Nat → T A
  call : FuncId → List V → T A
variable (P : Program) (kof : TypeId → Option (Nat × Bool)) (tbl : FuncId → Option (List V → T A))
noncomputable def yieldS (S : SR A) (L : Nat) (args : List V) : T A := .get L fun
  | .loop .ready pe N1 s1 ps assign body => (match Nat.beq args.length ps.size with
    | true => (S.code N1 true assign (foldT N1 ps.toList args s1) []).bind fun r => yMid (S.code N1 true body r.s []) L r
    | false => .fail 723)
  | _ => .fail 724
noncomputable def callV (S : SR A) (v : V) (args : List V) : T A := match v with
  | .fn (.func g) first cap => S.call g (first ++ args ++ cap)
  | .yl L => yieldS S L args
  | _ => .fail 88
noncomputable def oneS (S : SR A) (N : Nat) (o : Oper) (s : Nd V) : T A := match o.op with
  | .call c => (match c.callee with
    | .value f => callV S (evx N s f) (c.args.toList.map (evx N s))
    | _ => evOp P kof o (evx N s))
  | .defer _ => .fail 98
  | _ => evOp P kof o (evx N s)
noncomputable def opsS (S : SR A) (N : Nat) (ops : Array Oper) : List Nat → Nd V → List Nat → T A
  | [], s, ds => .ret (cr .normal s ds)
  | i :: rest, s, ds => match ops[i]? with
    | none => .fail 85
    | some o => guardD N o ops s fun g => match g with
      | false => opsS S N ops rest (putT N s o.dst undV) ds
      | true => (oneS P kof S N o s).bind (kv fun v => opsS S N ops rest (putT N s o.dst v) ds)
noncomputable def drawS (S : SR A) (N : Nat) (ops : Array Oper) : List Nat → Nd V → List Nat → List (Nat × Lg) → T A
  | [], s, ds, acc => (match confOK (befs ops.toList []) acc with
    | true => .ret (cr .normal s ds)
    | false => .fail 94)
  | i :: rest, s, ds, acc => match ops[i]? with
    | none => .fail 95
    | some o => guardD N o ops s fun g => match g with
      | false => drawS S N ops rest (putT N s o.dst undV) ds acc
      | true => drawT ((oneS P kof S N o s).bind (kv fun v => .ret (rv v))) (fun v => drawS S N ops rest (putT N s o.dst v) ds acc) (fun lg v => drawS S N ops rest (putT N s o.dst v) ds (addL i lg acc))
def condT (v : V) (a b : T A) : T A := match v with
  | .bool sy x => (match sy with
    | true => .ask x fun y => match y with
      | true => a
      | false => b
    | false => match x with
      | true => a
      | false => b)
  | _ => .fail 82
noncomputable def codeS (S : SR A) (N : Nat) (rd : Bool) (c : Code) (s : Nd V) (ds : List Nat) : T A := match c with
  | .skip => .ret (cr .normal s ds)
  | .label _ => .ret (cr .normal s ds)
  | .region _ ops dr => (match dr with
    | false => opsS P kof S N ops (List.range ops.size) s ds
    | true => (match drawQ ops with
      | true => drawS P kof S N ops (List.range ops.size) s ds []
      | false => .fail 81))
  | .seq a b => (S.code N rd a s ds).bind fun r => match r.x with
    | .normal => S.code N rd b r.s r.ds
    | _ => .ret (cr r.x r.s r.ds)
  | .cond c a b => condT (evx N s c) (S.code N rd a s ds) (S.code N rd b s ds)
  | .block id b => (S.code N rd b s ds).bind fun r => match r.x with
    | .exit j => (match Nat.beq j id with
      | true => .ret (cr .normal r.s r.ds)
      | false => .ret (cr r.x r.s r.ds))
    | _ => .ret (cr r.x r.s r.ds)
  | .loop b => (S.code N rd b s ds).bind fun r => match r.x with
    | .normal => S.code N rd (.loop b) r.s r.ds
    | _ => .ret (cr r.x r.s r.ds)
  | .exit id => .ret (cr (.exit id) s ds)
  | .ret => .ret (cr .ret s ds)
  | .scope b => (match rd with
    | true => .fail 714
    | false => S.code N rd b s ds)
  | .rangeFunc g ps assign body => (match rd with
    | true => .fail 713
    | false => (match evx N s g with
      | .fn (.func f) first cap => .new .mark fun m => .new (.loop .ready none N s ps assign body) fun L =>
        (S.call f (first ++ [.yl L] ++ cap)).bind (kv fun _ => .get L (rfEnd (fun ds c => S.code N false c s ds) L m s ds))
      | _ => .fail 712))
  | _ => .fail 83
noncomputable def callS (S : SR A) (f : FuncId) (args : List V) : T A := match P.funcs[f]? with
  | none => .fail 90
  | some fn => match fn.body with
    | none => .fail 91
    | some c => match tbl f with
      | some t => t args
      | none => (match Nat.ble args.length fn.ntmps with
        | true => (S.code fn.ntmps false c (mkF fn.ntmps 0 args .z) []).bind fun r => match r.x with
          | .exit _ => .fail 92
          | _ => finT (resT P fn.ntmps r.s fn.results.toList []) r.ds
        | false => .fail 99)
noncomputable def evS : Nat → SR A
  | 0 => ⟨fun _ _ _ _ _ => .fail 80, fun _ _ => .fail 89⟩
  | n + 1 => ⟨codeS P kof (evS n), callS P tbl (evS n)⟩
end
end Go.Proofs.YthdnonoheochhaaGreatDoor
namespace Go.Proofs.YthdnonoheochhaaGreatDoor
open Go.RowKit
set_option linter.unusedVariables false
def Fe (o : Option Nat) : Fence := match o with
  | none => Fence.wide
  | some l => Fence.wide.inRound l
theorem Fe_fn (o : Option Nat) (f : FuncId) : (Fe o).fn f := by cases o <;> trivial
theorem Fe_depth (o : Option Nat) : (Fe o).depth = none := by cases o <;> rfl
theorem Fe_room (o : Option Nat) : (Fe o).depth.isSome = true → 1 ≤ 0 := fun h => by rw [Fe_depth] at h; cases h
theorem Fe_calls {o : Option Nat} {n : Nat} {P : Program} {f : FuncId} {args : Array Value} {w : World} {R : Ending → World → Prop} (h : Calls P f args w R) : CallsIn (Fe o) n P f args w R := by
  have := (callsIn_wide (n := n)).2 h
  cases o with
  | none => exact this
  | some l => exact this
theorem Fe_round {o : Option Nat} {n l : Nat} {P : Program} {f : FuncId} {tmps : Array Value} {assign body : Code} {w : World} {R : Ending → World → Prop} (h : RoundIn Fence.wide n P l f tmps assign body w R) : RoundIn (Fe o) n P l f tmps assign body w R := by
  cases o with
  | none => exact h
  | some l => exact h
section
variable {A : Type} (ar : A → List Value → Value → Res) (P : Program)
def exOf : Ex → Exit
  | .normal => .normal
  | .exit j => .exit j
  | .ret => .ret
def mks (ρ : En) (ds : List Nat) : List Deferred := ds.map fun m => { target := .collected (blkOf (ρ m)), args := #[] }
theorem mks_eq {B : Nat → Prop} {ρ ρ' : En} (h : ∀ n, B n → ρ' n = ρ n) {ds : List Nat} (hs : ∀ m ∈ ds, B m) : mks ρ' ds = mks ρ ds := by
  unfold mks
  exact List.map_congr_left fun m hm => by rw [h m (hs m hm)]
def scR (B : Nat → Prop) (r : RT) : Prop := scL B r.l ∧ scS B r.s ∧ ∀ m ∈ r.ds, B m
theorem scR_mono {B C : Nat → Prop} (h : ∀ n, B n → C n) {r : RT} (hr : scR B r) : scR C r := ⟨scL_mono h _ hr.1, Nd.All.mono (fun v hv => V.sc_mono h v hv) hr.2.1, fun m hm => h m (hr.2.2 m hm)⟩
def Prom (t : T A) (scs : (Nat → Prop) → Prop) (X : En → World → (RT → En → World → Prop) → Prop) : Prop :=
  ∀ ch M obs lg r M' ch' obs' lg', t.run ch M obs lg = .ok r M' ch' obs' lg' → okObs obs' → ∀ (B : Nat → Prop) ρ w0 D w (K : RT → En → World → Prop), (∀ n, B n → n < M.length ∨ M'.length ≤ n) → At ar w0 D w ρ M → scM B M → scs B →
    (∀ ρ' w', Ext M.length M'.length ρ ρ' → At ar w0 D w' ρ' M' → scR (wid B M.length M'.length) r → scM (wid B M.length M'.length) M' → K r ρ' w') → X ρ w K
noncomputable abbrev actN (ρ : En) (N : Nat) (s : Nd V) (df : List Deferred) : Act := ⟨(denL ρ (lV N s)).toArray, df⟩
abbrev XC (P : Program) (N : Nat) (rd : Bool) (c : Code) (s : Nd V) (ds : List Nat) : En → World → (RT → En → World → Prop) → Prop := fun ρ w K => ∀ fo, (rd = false → fo = none) → ∀ Q : Exit → Act → World → Prop, (∀ r ρ' w', K r ρ' w' → Q (exOf r.x) (actN ρ' N r.s (mks ρ' r.ds)) w') → c.wpIn (Fe fo) 0 P Q (actN ρ N s (mks ρ ds)) w
def CodeOK (N : Nat) (rd : Bool) (c : Code) (s : Nd V) (ds : List Nat) (t : T A) : Prop := Prom ar t (fun B => scS B s ∧ ∀ m ∈ ds, B m) (XC P N rd c s ds)
def OpsOK (N : Nat) (ops : Array Oper) (l : List Nat) (s : Nd V) (ds : List Nat) (t : T A) : Prop :=
  Prom ar t (fun B => scS B s ∧ ∀ m ∈ ds, B m) fun ρ w K => ∀ fo (Q : Exit → Act → World → Prop), (∀ r ρ' w', K r ρ' w' → Q (exOf r.x) (actN ρ' N r.s (mks ρ' r.ds)) w') → wpOpsIn (Fe fo) 0 P ops Q l (actN ρ N s (mks ρ ds)) w
def OneOK (N : Nat) (o : Oper) (s : Nd V) (t : T A) : Prop :=
  Prom ar t (fun B => scS B s) fun ρ w K => ∀ fo df (next : Act → World → Prop) (Q : Exit → Act → World → Prop), (∀ r ρ' w' v, r = rv v → K r ρ' w' → next ((actN ρ' N s df).put o.dst (v.den ρ')) w') → o.wpIn (Fe fo) 0 P (actN ρ N s df) w next Q
def CallOK (f : FuncId) (args : List V) (t : T A) : Prop :=
  Prom ar t (fun B => scL B args) fun ρ w K => ∀ R : Ending → World → Prop, (∀ r ρ' w' v, r = rv v → K r ρ' w' → R (.returned (v.den ρ')) w') → Calls P f (denL ρ args).toArray w R
end
section
variable {A : Type} {ar : A → List Value → Value → Res} {P : Program}
theorem wid_wid {B : Nat → Prop} {n m k : Nat} (h1 : n ≤ m) (h2 : m ≤ k) : ∀ j, wid (wid B n m) m k j → wid B n k j := fun j h => by
  rcases h with (h | h) | h
  · exact .inl h
  · exact .inr (by omega)
  · exact .inr (by omega)
theorem Ext.trans {n m k : Nat} {ρ ρ1 ρ2 : En} (h1 : Ext n m ρ ρ1) (h2 : Ext m k ρ1 ρ2) (hn : n ≤ m) (hm : m ≤ k) : Ext n k ρ ρ2 := fun j hj => by
  rcases hj with hj | hj
  · rw [h2 j (.inl (by omega)), h1 j (.inl hj)]
  · rw [h2 j (.inr hj), h1 j (.inr (by omega))]
theorem wid_lt {B : Nat → Prop} {n m k : Nat} (h : ∀ j, B j → j < n ∨ k ≤ j) (hm : n ≤ m) : ∀ j, wid B n m j → j < m ∨ k ≤ j := fun j hj => by
  rcases hj with hj | hj
  · have := h j hj; omega
  · exact .inl hj.2
theorem Prom.bind {t : T A} {f : RT → T A} {s1 : (Nat → Prop) → Prop} {s2 : RT → (Nat → Prop) → Prop} {X1 X2 : En → World → (RT → En → World → Prop) → Prop} {X3 : RT → En → World → (RT → En → World → Prop) → Prop} (h1 : Prom ar t s1 X1) (h2 : ∀ r, Prom ar (f r) (s2 r) (X3 r))
    (hs : ∀ r B B', (∀ k, B k → B' k) → s1 B → scR B' r → s2 r B') (hX : ∀ B ρ w K, s1 B → X1 ρ w (fun r ρ' w' => (∀ n, B n → ρ' n = ρ n) ∧ X3 r ρ' w' K) → X2 ρ w K) : Prom ar (t.bind f) s1 X2 := by
  intro ch M obs lg r M' ch' obs' lg' hr ho B ρ w0 D w K hB hA hM hsc hK
  obtain ⟨r1, M1, ch1, obs1, lg1, e1, e2⟩ := bind_ok hr
  have l1 := run_len t e1
  have l2 := run_len _ e2
  refine hX B ρ w K hsc (h1 ch M obs lg r1 M1 ch1 obs1 lg1 e1 (run_obs _ e2 ho) B ρ w0 D w _ (fun n hn => (hB n hn).imp id fun h => Nat.le_trans l2 h) hA hM hsc fun ρ1 w1 hE1 hA1 hs1 hM1 => ⟨fun n hn => hE1 n ((hB n hn).imp id fun h => Nat.le_trans l2 h), ?_⟩)
  refine h2 r1 ch1 M1 obs1 lg1 r M' ch' obs' lg' e2 ho (wid B M.length M1.length) ρ1 w0 D w1 K (wid_lt hB l1) hA1 hM1 (hs r1 B _ wid_l hsc hs1) fun ρ2 w2 hE2 hA2 hs2 hM2 => ?_
  exact hK ρ2 w2 (hE1.trans hE2 l1 l2) hA2 (scR_mono (wid_wid l1 l2) hs2) (fun i => Pl.sc_mono (wid_wid l1 l2) _ (hM2 i))
theorem Prom.ret {r : RT} {s : (Nat → Prop) → Prop} {X : En → World → (RT → En → World → Prop) → Prop} (hs : ∀ B, s B → scR B r) (hX : ∀ ρ w K, K r ρ w → X ρ w K) : Prom ar (.ret r : T A) s X := by
  intro ch M obs lg r' M' ch' obs' lg' hr ho B ρ w0 D w K hB hA hM hsc hK
  cases hr
  exact hX ρ w K (hK ρ w Ext.rfl' hA (scR_mono wid_l (hs B hsc)) (fun i => Pl.sc_mono wid_l _ (hM i)))
theorem Prom.fail {n : Nat} {s : (Nat → Prop) → Prop} {X : En → World → (RT → En → World → Prop) → Prop} : Prom ar (.fail n : T A) s X := by
  intro ch M obs lg r' M' ch' obs' lg' hr; cases hr
theorem Prom.ask {c : Bool} {k : Bool → T A} {s : (Nat → Prop) → Prop} {X : En → World → (RT → En → World → Prop) → Prop} (h : ∀ b, c = b → Prom ar (k b) s X) : Prom ar (.ask c k : T A) s X := by
  intro ch M obs lg r M' ch' obs' lg' hr ho
  cases ch with
  | nil => cases hr
  | cons b ch => exact h b (run_obs (k b) hr ho (c, b) List.mem_cons_self) ch M _ lg r M' ch' obs' lg' hr ho
theorem Prom.imp {t : T A} {s s' : (Nat → Prop) → Prop} {X X' : En → World → (RT → En → World → Prop) → Prop} (h : Prom ar t s X) (hs : ∀ B, s' B → s B) (hX : ∀ B ρ w K, s' B → X ρ w (fun r ρ' w' => (∀ n, B n → ρ' n = ρ n) ∧ K r ρ' w') → X' ρ w K) : Prom ar t s' X' :=
  fun ch M obs lg r M' ch' obs' lg' hr ho B ρ w0 D w K hB hA hM hsc hK => hX B ρ w K hsc (h ch M obs lg r M' ch' obs' lg' hr ho B ρ w0 D w _ hB hA hM (hs B hsc) fun ρ' w' a b c d => ⟨fun n hn => a n (hB n hn), hK ρ' w' a b c d⟩)
theorem getD_den (ρ : En) (tm : List V) (t : Nat) : (denL ρ tm).toArray.getD t undef = (tm.getD t undV).den ρ := by
  have : (denL ρ tm).toArray.getD t undef = ((denL ρ tm)[t]?).getD undef := by simp [Array.getD_eq_getD_getElem?]
  rw [this, denL_get, List.getD_eq_getElem?_getD]
  cases tm[t]? <;> rfl
theorem slot_l {N : Nat} {s : Nd V} (t : Nat) : (lV N s).getD t undV = slot N s t := by
  unfold slot lV
  rw [List.getD_eq_getElem?_getD]
  split
  · rename_i h
    have h : t < N := by simpa using h
    rw [lN_get _ _ h]; rfl
  · rename_i h
    have h : ¬ t < N := of_decide_eq_false (by rw [← blt_dec]; exact h)
    rw [List.getElem?_eq_none (by rw [lN_len]; omega)]; rfl
theorem slot_den (N : Nat) (s : Nd V) (ρ : En) (t : Nat) : (denL ρ (lV N s)).toArray.getD t undef = (slot N s t).den ρ := by rw [getD_den, slot_l]
theorem evx_den (N : Nat) (s : Nd V) (ρ : En) (ds : List Deferred) (x : Operand) : (actN ρ N s ds).eval x = (evx N s x).den ρ := by
  cases x with
  | tmp t => exact slot_den N s ρ t
  | const v => exact (ofV_den false v ρ).symm
  | global g => rfl
  | func f => rfl
theorem slot_sc {B : Nat → Prop} {N : Nat} {s : Nd V} (h : scS B s) (t : Nat) : (slot N s t).sc B := by
  unfold slot
  split
  · exact all_get (p := fun v => V.sc B v) (u := undV) trivial _ t h
  · trivial
theorem evx_sc {B : Nat → Prop} {N : Nat} {s : Nd V} (h : scS B s) (x : Operand) : (evx N s x).sc B := by
  cases x with
  | tmp t => exact slot_sc h t
  | const v => exact ofV_sc _ _ _
  | global g => trivial
  | func f => exact ⟨trivial, trivial⟩
theorem setS_sc {B : Nat → Prop} {N : Nat} {s : Nd V} (h : scS B s) {v : V} (hv : v.sc B) (d : Nat) : scS B (setS N s d v) := by
  unfold setS
  split
  · exact all_put (p := fun v => V.sc B v) hv _ d h
  · exact h
theorem putT_sc {B : Nat → Prop} {N : Nat} {s : Nd V} (h : scS B s) {v : V} (hv : v.sc B) (d : Option Tmp) : scS B (putT N s d v) := by
  cases d with
  | none => exact h
  | some d => exact setS_sc h hv d
theorem setS_l (N : Nat) (s : Nd V) (d : Nat) (v : V) : lV N (setS N s d v) = (lV N s).set d v := by
  unfold setS lV
  split
  · rename_i h
    exact lN_put _ v s (by simpa using h)
  · rename_i h
    have h : ¬ d < N := of_decide_eq_false (by rw [← blt_dec]; exact h)
    rw [List.set_eq_of_length_le (by rw [lN_len]; omega)]
theorem denL_set (ρ : En) (tm : List V) (d : Nat) (v : V) : denL ρ (tm.set d v) = (denL ρ tm).set d (v.den ρ) := by rw [denL_map, denL_map, List.map_set]
theorem put_den (ρ : En) (N : Nat) (s : Nd V) (d : Option Tmp) (v : V) (ds : List Deferred) : (actN ρ N s ds).put d (v.den ρ) = actN ρ N (putT N s d v) ds := by
  cases d with
  | none => rfl
  | some d =>
    simp only [Act.put, putT, actN, setS_l, denL_set]
    congr 1
    apply Array.toList_inj.1
    simp
theorem act_eq {B : Nat → Prop} {ρ ρ' : En} (h : ∀ n, B n → ρ' n = ρ n) {N : Nat} {s : Nd V} (hs : scS B s) (df : List Deferred) : actN ρ' N s df = actN ρ N s df := by
  simp only [actN, denL_eq h _ (scS_l hs)]
variable {kof : TypeId → Option (Nat × Bool)}
theorem one_of_snd (hK : KeyOK P kof) {N : Nat} {o : Oper} {s : Nd V} (hd : ∀ c, o.op ≠ .defer c) : OneOK ar P N o s (evOp P kof o (evx N s)) := by
  intro ch M obs lg r M' ch' obs' lg' hr ho B ρ w0 D w K hB hA hM hsc hK' fo df next Q hQ
  obtain ⟨v, ρ', w', rfl, h, hE, hA', hv, hM'⟩ := evOp_snd (ar := ar) (B := B) hK o (evx N s) (fun x _ => evx_sc hsc x) ch M obs lg r M' ch' obs' lg' hr ho ρ w0 D w hB hA hM
  have he : (fun x => (evx N s x).den ρ) = (actN ρ N s df).eval := funext fun x => (evx_den N s ρ df x).symm
  have hk := hK' ρ' w' hE hA' ⟨⟨hv, trivial⟩, trivial, fun m hm => by cases hm⟩ hM'
  have hn := hQ _ ρ' w' v rfl hk
  rw [act_eq (B := B) (fun n hn => hE n (hB n hn)) hsc] at hn
  refine ⟨fun f _ => Fe_fn fo f, ?_⟩
  rw [Oper.semAt_eq _ _ _ hd]
  rcases h with h | ⟨h, rfl⟩
  · simp only at h
    rw [he] at h
    rw [h]
    exact hn
  · simp only at h
    rw [he] at h
    rw [h]
    exact hn
theorem wanted_slot {N : Nat} {s : Nd V} {ρ : En} {o : Oper} {ops : Array Oper} {j : Nat} {want : Bool} {d : Nat} (hg : o.guard = some (j, want)) (hd : (ops[j]?).bind (·.dst) = some d) :
    Region.wanted o (yielded ops (denL ρ (lV N s)).toArray) = match (slot N s d).den ρ with
      | .bool b => b == want
      | _ => false := by
  have hy : yielded ops (denL ρ (lV N s)).toArray j = match (slot N s d).den ρ with
      | .bool b => some b
      | _ => none := by
    unfold yielded
    rw [hd]
    simp only [Option.bind_some]
    by_cases h : d < N
    · have h1 : (lV N s)[d]? = some (slot N s d) := by
        have := slot_l (N := N) (s := s) d
        rw [List.getD_eq_getElem?_getD] at this
        have hl : d < (lV N s).length := by rw [lV, lN_len]; exact h
        rw [List.getElem?_eq_getElem hl] at this ⊢
        simp only [Option.getD_some] at this
        rw [this]
      have : (denL ρ (lV N s)).toArray[d]? = some ((slot N s d).den ρ) := by simp [denL_get, h1]
      rw [this]
      cases (slot N s d).den ρ <;> rfl
    · have : (denL ρ (lV N s)).toArray[d]? = none := by
        have hl : (lV N s).length ≤ d := by rw [lV, lN_len]; omega
        simp [denL_get, List.getElem?_eq_none hl]
      rw [this]
      have hz : slot N s d = undV := by
        unfold slot
        have : Nat.blt d N = false := by rw [blt_dec]; exact decide_eq_false h
        rw [this]
      rw [hz]
      rfl
  unfold Region.wanted
  rw [hg]
  simp only [hy]
  cases (slot N s d).den ρ <;> first | rfl | (rename_i b; cases b <;> cases want <;> rfl)
theorem guardD_prom {N : Nat} {o : Oper} {ops : Array Oper} {s : Nd V} {k : Bool → T A} {sc : (Nat → Prop) → Prop} {X : En → World → (RT → En → World → Prop) → Prop}
    (h : ∀ g, (∀ ρ, Region.wanted o (yielded ops (denL ρ (lV N s)).toArray) = g) → Prom ar (k g) sc X) : Prom ar (guardD N o ops s k) sc X := by
  unfold guardD
  split
  · rename_i hg
    exact h true fun ρ => by unfold Region.wanted; rw [hg]
  · rename_i j want hg
    split
    case h_2 => exact Prom.fail
    rename_i d hd
    unfold guardV
    split
    · rename_i sy b hb
      have hw : ∀ ρ, Region.wanted o (yielded ops (denL ρ (lV N s)).toArray) = (b == want) := fun ρ => by
        rw [wanted_slot hg hd, hb]; rfl
      split
      · refine Prom.ask fun y hby => ?_
        subst hby
        exact h (b == want) hw
      · exact h (b == want) hw
    · rename_i x hb
      exact h false fun ρ => by rw [wanted_slot hg hd, hb]; rfl
    · exact Prom.fail
theorem packV_ne {m : List V} (h : ∀ v, m ≠ [v]) : packV m = .tup m.reverse := by
  cases m with
  | nil => rfl
  | cons a m =>
    cases m with
    | nil => exact (h a rfl).elim
    | cons b m => rfl
theorem packV_sc {B : Nat → Prop} {m : List V} (h : scL B m) : (packV m).sc B := by
  by_cases hm : ∃ v, m = [v]
  · obtain ⟨v, rfl⟩ := hm; exact h.1
  · rw [packV_ne fun v e => hm ⟨v, e⟩]
    exact scL_iff.2 fun v hv => scL_iff.1 h v (List.mem_reverse.1 hv)
theorem results_of {fn : Func} {N : Nat} {s : Nd V} {l : List V} {ρ : En} {w : World} (h : (fn.results.toList.mapM fun
      | .tmp t => pure ((denL ρ (lV N s)).toArray.getD t undef)
      | .cell a t => do loadVar t (← asAddr ((denL ρ (lV N s)).toArray.getD a undef)) : Sem (List Value)).run P w = .ok (denL ρ l) w) :
    (results fn (denL ρ (lV N s)).toArray).run P w = .ok ((packV l.reverse).den ρ) w := by
  unfold results
  rw [Array.mapM_eq_mapM_toList]
  simp only [Sem.run_bind, Sem.run_map]
  have key : ∀ (x : Result (List Value)) (f : List Value → World → Result (Array Value)) (g : Array Value → World → Result Value), x = .ok (denL ρ l) w → (x.andThen f).andThen g = (f (denL ρ l) w).andThen g := fun x f g hx => by rw [hx]; rfl
  refine (key _ _ _ h).trans ?_
  simp only [Result.andThen_ok]
  cases l with
  | nil => rfl
  | cons a l =>
    cases l with
    | nil => rfl
    | cons b l =>
      have e : packV (a :: b :: l).reverse = .tup (a :: b :: l) := by
        rw [packV_ne fun v h => by have := congrArg List.length h; simp at this, List.reverse_reverse]
      rw [e]
      have hne : (denL ρ (a :: b :: l)).toArray.size ≠ 1 := by simp [denL_len]
      simp only [hne, dif_neg, not_false_eq_true]
      rfl
end
end Go.Proofs.YthdnonoheochhaaGreatDoor
namespace Go.Proofs.YthdnonoheochhaaGreatDoor
open Go.RowKit
set_option linter.unusedVariables false
section
variable {A : Type} {P : Program} {kof : TypeId → Option (Nat × Bool)}
theorem evPure_congr {o : Oper} {e e' : Operand → V} (hs : ∀ cs b, o.op ≠ .select cs b) (h : ∀ x ∈ o.op.operands, e x = e' x) : (evPure P o e : T A) = evPure P o e' := by
  have hm : o.op.operands.toList.map e = o.op.operands.toList.map e' := List.map_congr_left fun x hx => h x (by simpa using hx)
  have h1 : (o.op.operands.toList.all fun x => (e x).cl) = (o.op.operands.toList.all fun x => (e' x).cl) := by
    have := congrArg (fun l => l.all V.cl) hm
    simpa [List.all_map, Function.comp_def] using this
  have h2 : (o.op.operands.toList.any fun x => (e x).sy) = (o.op.operands.toList.any fun x => (e' x).sy) := by
    have := congrArg (fun l => l.any V.sy) hm
    simpa [List.any_map, Function.comp_def] using this
  unfold evPure
  rw [h1, h2, execOp_congr o hs fun x hx => by rw [h x hx]]
section
variable {o : Oper} {e e' : Operand → V} (hp : (evPure P o e : T A) = evPure P o e')
include hp
theorem evInt_congr (op : BinOp) (s : Bool) (k k' : IntKind) (a b : Int) : (evInt P o e op s k k' a b : T A) = evInt P o e' op s k k' a b := by unfold evInt; rw [hp]
theorem evBin_congr (op : BinOp) (t : TypeId) (x y : V) : (evBin P o e op t x y : T A) = evBin P o e' op t x y := by
  unfold evBin
  simp only [hp, evInt_congr hp]
theorem evUn_congr (op : UnOp) (x : V) : (evUn P o e op x : T A) = evUn P o e' op x := by unfold evUn; rw [hp]
theorem evConv_congr (s d : TypeId) (x : V) : (evConv P o e s d x : T A) = evConv P o e' s d x := by unfold evConv; rw [hp]
theorem evLen_congr (t : TypeId) (x : V) : (evLen P o e t x : T A) = evLen P o e' t x := by unfold evLen; rw [hp]
theorem evMM0_congr (mx : Bool) (l : List V) : (evMM0 P o e mx l : T A) = evMM0 P o e' mx l := by unfold evMM0; rw [hp]
theorem evMM_congr (mx : Bool) (l : List V) : (evMM P o e mx l : T A) = evMM P o e' mx l := by unfold evMM; rw [evMM0_congr hp]
end
theorem evBi_congr {o : Oper} {e e' : Operand → V} (hp : (evPure P o e : T A) = evPure P o e') {c : Call} {b : Builtin} (hin : ∀ x ∈ c.args.toList, e x = e' x) : (evBi P kof o e c b : T A) = evBi P kof o e' c b := by
  have hl : c.args.toList.map e = c.args.toList.map e' := List.map_congr_left hin
  unfold evBi
  split
  · split
    · rename_i x t ha ht
      rw [hin x (by rw [ha]; simp), evLen_congr hp]
    · rfl
  · split
    · rename_i s x t t' ha ht
      rw [hin x (by rw [ha]; simp), hin s (by rw [ha]; simp)]
    · rfl
  · split
    · rename_i s x t t' ha ht
      rw [hin x (by rw [ha]; simp), hin s (by rw [ha]; simp)]
    · rfl
  · split
    · rename_i s x t t' ha ht
      rw [hin x (by rw [ha]; simp), hin s (by rw [ha]; simp)]
    · rfl
  · rw [hl, evMM_congr hp]
  · rw [hl, evMM_congr hp]
  · exact hp
theorem evOp_congr {o : Oper} {e e' : Operand → V} (h : ∀ x ∈ o.op.operands, e x = e' x) : (evOp P kof o e : T A) = evOp P kof o e' := by
  obtain ⟨dst, op, type, pos, after, guard⟩ := o
  have hp : (∀ cs b, op ≠ .select cs b) → (evPure P ⟨dst, op, type, pos, after, guard⟩ e : T A) = evPure P ⟨dst, op, type, pos, after, guard⟩ e' := fun hs => evPure_congr hs h
  cases op <;> simp only [Op.operands] at h <;> simp only [evOp]
  case build t ps =>
    have : (ps.toList.map fun p => (p.1, e p.2)) = (ps.toList.map fun p => (p.1, e' p.2)) := List.map_congr_left fun p hm => by
      rw [h p.2 (by simp only [List.mem_toArray, List.mem_map]; exact ⟨p, hm, rfl⟩)]
    rw [this]
  case buildSlice t n ps =>
    have : (ps.toList.map fun p => (p.1, e p.2)) = (ps.toList.map fun p => (p.1, e' p.2)) := List.map_congr_left fun p hm => by
      rw [h p.2 (by simp only [List.mem_toArray, List.mem_map]; exact ⟨p, hm, rfl⟩)]
    rw [this]
  case makeFunc fn first captured =>
    rw [List.map_congr_left (l := first.toList) fun x hx => h x (by simp_all), List.map_congr_left (l := captured.toList) fun x hx => h x (by simp_all)]
  case call c =>
    split
    · exact evBi_congr (hp fun _ _ h => by cases h) fun x hx => h x (by simp [Call.operands]; exact .inr (by simpa using hx))
    · rfl
  case binOp op t x y u =>
    rw [h x (by simp), h y (by simp)]
    exact evBin_congr (hp fun _ _ h => by cases h) _ _ _ _
  case unOp op t x =>
    rw [h x (by simp)]
    exact evUn_congr (hp fun _ _ h => by cases h) _ _
  case convert s d x =>
    rw [h x (by simp)]
    split
    · rfl
    · exact evConv_congr (hp fun _ _ h => by cases h) _ _ _
  case slice t x lo hi mx => cases lo <;> cases hi <;> cases mx <;> simp_all
  all_goals (first | rfl | (simp_all; done) | (exact hp fun _ _ h => by cases h))
theorem evx_congr {N : Nat} {s s' : Nd V} {x : Operand} (h : ∀ t, x = .tmp t → slot N s' t = slot N s t) : evx N s' x = evx N s x := by
  cases x with
  | tmp t => exact h t rfl
  | _ => rfl
theorem oneS_congr {S : SR A} {N : Nat} {o : Oper} {s s' : Nd V} (h : ∀ x ∈ o.op.operands, evx N s' x = evx N s x) : oneS P kof S N o s' = oneS P kof S N o s := by
  have h1 : (evOp P kof o (evx N s') : T A) = evOp P kof o (evx N s) := evOp_congr h
  unfold oneS
  split
  · rename_i c hc
    rw [hc] at h
    split
    · rename_i f hf
      rw [h f (by simp [Op.operands, Call.operands, hf]), List.map_congr_left (l := c.args.toList) fun x hx => h x (by simp [Op.operands, Call.operands]; exact .inr (by simpa using hx))]
    · exact h1
  · rfl
  · exact h1
theorem looks_op {N : Nat} {ops : Array Oper} {o : Oper} {s s' : Nd V} (h : ∀ t ∈ o.looksAt ops, slot N s' t = slot N s t) : ∀ x ∈ o.op.operands, evx N s' x = evx N s x := fun x hx => evx_congr fun t ht => h t (by
  subst ht
  exact List.mem_append_left _ (List.mem_filterMap.2 ⟨.tmp t, by simpa using hx, rfl⟩))
theorem guardD_run {N : Nat} {o : Oper} {ops : Array Oper} {s : Nd V} {k : Bool → T A} {ch M obs lg r M' ch' obs' lg'} (h : (guardD N o ops s k).run ch M obs lg = .ok r M' ch' obs' lg') (ho : okObs obs') :
    ∃ g ch1 obs1, (k g).run ch1 M obs1 lg = .ok r M' ch' obs' lg' ∧ ∀ s2 ρ, (∀ t ∈ o.looksAt ops, slot N s2 t = slot N s t) → Region.wanted o (yielded ops (denL ρ (lV N s2)).toArray) = g := by
  unfold guardD at h
  split at h
  · rename_i hg
    exact ⟨true, ch, obs, h, fun s2 ρ _ => by unfold Region.wanted; rw [hg]⟩
  · rename_i j want hg
    split at h
    case h_2 => cases h
    rename_i d hd
    have hsl : ∀ s2 : Nd V, (∀ t ∈ o.looksAt ops, slot N s2 t = slot N s t) → slot N s2 d = slot N s d := fun s2 h2 => h2 d (by simp [Oper.looksAt, hg, hd])
    unfold guardV at h
    split at h
    · rename_i sy b hb
      have hw : ∀ s2 ρ, (∀ t ∈ o.looksAt ops, slot N s2 t = slot N s t) → Region.wanted o (yielded ops (denL ρ (lV N s2)).toArray) = (b == want) := fun s2 ρ h2 => by
        rw [wanted_slot hg hd, hsl s2 h2, hb]; rfl
      split at h
      · cases ch with
        | nil => cases h
        | cons y ch =>
          have hby : b = y := run_obs (k (y == want)) h ho (b, y) List.mem_cons_self
          subst hby
          exact ⟨_, ch, _, h, hw⟩
      · exact ⟨_, ch, obs, h, hw⟩
    · rename_i x hb
      exact ⟨false, ch, obs, h, fun s2 ρ h2 => by rw [wanted_slot hg hd, hsl s2 h2, hb]; rfl⟩
    · cases h
end
end Go.Proofs.YthdnonoheochhaaGreatDoor
namespace Go.Proofs.YthdnonoheochhaaGreatDoor
open Go.RowKit
set_option linter.unusedVariables false
section
variable {A : Type} {ar : A → List Value → Value → Res} {P : Program} {kof : TypeId → Option (Nat × Bool)}
def StepD (ar : A → List Value → Value → Res) (P : Program) (N : Nat) (ops : Array Oper) (i : Nat) (tm : Nd V) (M : List (Pl A)) (l : Lg) (u : V) (M' : List (Pl A)) : Prop :=
  ∃ o, ops[i]? = some o ∧ M.length ≤ M'.length ∧ (∀ n, M.length ≤ n → n < M'.length → wrote l n) ∧ (∀ n, ¬ wrote l n → Mget M' n = Mget M n) ∧
    ∀ tm2 M2, (∀ t ∈ o.looksAt ops, slot N tm2 t = slot N tm t) → M2.length = M.length → (∀ n, touched l n → n < M.length → Mget M2 n = Mget M n) →
      ∃ M2', M2'.length = M'.length ∧ (∀ n, n < M.length → ¬ wrote l n → Mget M2' n = Mget M2 n) ∧ (∀ n, (M.length ≤ n ∨ wrote l n) → Mget M2' n = Mget M' n) ∧
        ∀ (B : Nat → Prop) ρ w0 D w, (∀ n, B n → n < M.length ∨ M'.length ≤ n) → At ar w0 D w ρ M2 → scM B M2 → scS B tm2 → ∀ fo df (K : Act → World → Prop) (Q : Exit → Act → World → Prop),
          (∀ ρ' w', Ext M.length M'.length ρ ρ' → At ar w0 D w' ρ' M2' → u.sc (wid B M.length M'.length) → scM (wid B M.length M'.length) M2' → K (actN ρ' N (putT N tm2 o.dst u) df) w') →
          wpOpIn (Fe fo) 0 P ops Q i K (actN ρ N tm2 df) w
theorem Mget_ge {M : List (Pl A)} {n : Nat} (h : M.length ≤ n) : Mget M n = .none := by
  unfold Mget
  rw [List.getD_eq_getElem?_getD, List.getElem?_eq_none h]; rfl
theorem step_off {N : Nat} {ops : Array Oper} {i : Nat} {o : Oper} {tm : Nd V} {M : List (Pl A)} (hi : ops[i]? = some o)
    (hg : ∀ tm2 ρ, (∀ t ∈ o.looksAt ops, slot N tm2 t = slot N tm t) → Region.wanted o (yielded ops (denL ρ (lV N tm2)).toArray) = false) : StepD ar P N ops i tm M .nil undV M :=
  ⟨o, hi, Nat.le_refl _, fun n h1 h2 => by omega, fun _ _ => rfl, fun tm2 M2 h1 h2 h3 => ⟨M2, h2, fun _ _ _ => rfl, fun n hn => hn.elim (fun hn => by rw [Mget_ge hn, Mget_ge (by omega)]) (fun hn => (w_nil hn).elim),
    fun B ρ w0 D w hB hA hM hs fo df K Q hK => by
      unfold wpOpIn
      simp only [hi, hg tm2 ρ h1, Bool.false_eq_true, if_false]
      have := hK ρ w Ext.rfl' hA trivial (fun i => Pl.sc_mono wid_l _ (hM i))
      rw [← put_den] at this
      exact ⟨fun f _ => Fe_fn fo f, this⟩⟩⟩
theorem kv_ok {k : V → T A} {r1 : RT} {ch M obs lg r M' ch' obs' lg'} (h : (kv k r1).run ch M obs lg = .ok r M' ch' obs' lg') : ∃ v, r1.l = [v] ∧ (k v).run ch M obs lg = .ok r M' ch' obs' lg' := by
  unfold kv at h
  split at h
  · rename_i v hv; exact ⟨v, hv, h⟩
  · cases h
theorem one_kv {t : T A} {ch M obs lg u M' ch' obs' lg'} (hr : (t.bind (kv fun v => .ret (rv v))).run ch M obs lg = .ok (rv u) M' ch' obs' lg') : ∃ rr, t.run ch M obs lg = .ok rr M' ch' obs' lg' ∧ rr.l = [u] := by
  obtain ⟨r1, M1, ch1, obs1, lg1, e1, e2⟩ := bind_ok hr
  obtain ⟨v, hv, e3⟩ := kv_ok e2
  cases e3
  exact ⟨r1, e1, hv⟩
theorem step_on {N : Nat} {ops : Array Oper} {i : Nat} {o : Oper} {tm : Nd V} {M : List (Pl A)} {S : SR A} (hi : ops[i]? = some o) (hone : ∀ tm, OneOK ar P N o tm (oneS P kof S N o tm))
    (hg : ∀ tm2 ρ, (∀ t ∈ o.looksAt ops, slot N tm2 t = slot N tm t) → Region.wanted o (yielded ops (denL ρ (lV N tm2)).toArray) = true)
    {ch obs u M' ch' obs' l} (hr : ((oneS P kof S N o tm).bind (kv fun v => .ret (rv v))).run ch M obs .nil = .ok (rv u) M' ch' obs' l) (ho : okObs obs') : StepD ar P N ops i tm M l u M' := by
  obtain ⟨rr, hr, hu⟩ := one_kv hr
  obtain ⟨l', hl, h0, h1, _⟩ := run_loc _ (M2 := M) hr
  rw [un_nil] at hl
  subst hl
  refine ⟨o, hi, run_len _ hr, h0, fun n hn => ?_, fun tm2 M2 g1 g2 g3 => ?_⟩
  · by_cases hlt : n < M.length
    · exact h1 n hlt hn
    · by_cases h2 : n < M'.length
      · exact (hn (h0 n (by omega) h2)).elim
      · rw [Mget_ge (by omega), Mget_ge (by omega)]
  · obtain ⟨l', hl, _, _, h2⟩ := run_loc _ (M2 := M2) hr
    rw [un_nil] at hl
    subst hl
    obtain ⟨M2', e1, e2, e3, e4⟩ := h2 g2 g3
    rw [← oneS_congr (looks_op g1)] at e1
    refine ⟨M2', e2, e3, e4, fun B ρ w0 D w hB hA hM hs fo df K Q hK => ?_⟩
    unfold wpOpIn
    simp only [hi, hg tm2 ρ g1, if_true]
    refine hone tm2 ch M2 obs .nil rr M2' ch' obs' _ e1 ho B ρ w0 D w (fun r ρ' w' => (r = rr) ∧ Ext M.length M'.length ρ ρ' ∧ At ar w0 D w' ρ' M2' ∧ u.sc (wid B M.length M'.length) ∧ scM (wid B M.length M'.length) M2') ?_ hA hM hs (fun ρ' w' a b c d => ?_) fo df K Q ?_
    · rw [g2, e2]; exact hB
    · rw [g2, e2] at a c d
      exact ⟨rfl, a, b, by have := c.1; rw [hu] at this; exact this.1, d⟩
    · rintro r ρ' w' v hr ⟨q1, q2, q3, q4, q5⟩
      rw [q1] at hr
      rw [hr] at hu
      cases hu
      rw [put_den]
      exact hK ρ' w' q2 q3 q4 q5
def DrawSpec (ar : A → List Value → Value → Res) (P : Program) (N : Nat) (ops : Array Oper) (is : List Nat) (tm : Nd V) (ds : List Nat) (acc : List (Nat × Lg)) (M : List (Pl A)) (r : RT) (M' : List (Pl A)) : Prop :=
    ∃ (tmF : Nat → Nd V) (MF : Nat → List (Pl A)) (lF : Nat → Lg) (uF : Nat → V), tmF 0 = tm ∧ MF 0 = M ∧ r = cr .normal (tmF is.length) ds ∧ M' = MF is.length ∧
      (∀ k i, is[k]? = some i → StepD ar P N ops i (tmF k) (MF k) (lF k) (uF k) (MF (k + 1)) ∧ ∀ o, ops[i]? = some o → tmF (k + 1) = putT N (tmF k) o.dst (uF k)) ∧
      ∃ acc', confOK (befs ops.toList []) acc' = true ∧ (∀ x ∈ acc, x ∈ acc') ∧ ∀ k i, is[k]? = some i → (i, lF k) ∈ acc' ∨ lF k = .nil
theorem addL_mem {i : Nat} {l : Lg} {acc : List (Nat × Lg)} : (∀ x ∈ acc, x ∈ addL i l acc) ∧ ((i, l) ∈ addL i l acc ∨ l = .nil) := by
  unfold addL
  split
  · rename_i h
    simp only [Bool.and_eq_true] at h
    refine ⟨fun x hx => hx, .inr ?_⟩
    obtain ⟨t, w⟩ := l
    have h1 : t = 0 := Nat.eq_of_beq_eq_true h.1
    have h2 : w = 0 := Nat.eq_of_beq_eq_true h.2
    subst h1 h2
    rfl
  · exact ⟨fun x hx => List.mem_cons_of_mem _ hx, .inl List.mem_cons_self⟩
theorem draw_cons {N : Nat} {ops : Array Oper} {i : Nat} {rest : List Nat} {tm : Nd V} {ds : List Nat} {acc acc1 : List (Nat × Lg)} {M M1 : List (Pl A)} {r : RT} {M' : List (Pl A)} {u : V} {l : Lg} {o : Oper} (hi : ops[i]? = some o)
    (hst : StepD ar P N ops i tm M l u M1) (hacc : (∀ x ∈ acc, x ∈ acc1) ∧ ((i, l) ∈ acc1 ∨ l = .nil)) (h : DrawSpec ar P N ops rest (putT N tm o.dst u) ds acc1 M1 r M') : DrawSpec ar P N ops (i :: rest) tm ds acc M r M' := by
  obtain ⟨tmF, MF, lF, uF, a1, a2, a3, a4, a5, acc', a6, a7, a8⟩ := h
  refine ⟨fun k => match k with | 0 => tm | k + 1 => tmF k, fun k => match k with | 0 => M | k + 1 => MF k, fun k => match k with | 0 => l | k + 1 => lF k, fun k => match k with | 0 => u | k + 1 => uF k, rfl, rfl, a3, a4, fun k j hk => ?_, acc', a6, fun x hx => a7 x (hacc.1 x hx), fun k j hk => ?_⟩
  · cases k with
    | zero =>
      obtain rfl : i = j := by simpa using hk
      refine ⟨?_, fun o' ho' => ?_⟩
      · show StepD ar P N ops i tm M l u (MF 0)
        rw [a2]; exact hst
      · show tmF 0 = putT N tm o'.dst u
        rw [hi] at ho'
        cases ho'
        exact a1
    | succ k => exact a5 k j (by simpa using hk)
  · cases k with
    | zero =>
      obtain rfl : i = j := by simpa using hk
      exact hacc.2.imp (a7 _) id
    | succ k => exact a8 k j (by simpa using hk)
theorem draw_run {N : Nat} {ops : Array Oper} {S : SR A} {ds : List Nat} (hone : ∀ o tm, OneOK ar P N o tm (oneS P kof S N o tm)) : ∀ (is : List Nat) (tm : Nd V) (acc : List (Nat × Lg)) (ch : List Bool) (M : List (Pl A)) (obs : Obs) (lg : Lg) (r : RT) (M' : List (Pl A)) (ch' : List Bool) (obs' : Obs) (lg' : Lg),
    (drawS P kof S N ops is tm ds acc).run ch M obs lg = .ok r M' ch' obs' lg' → okObs obs' → DrawSpec ar P N ops is tm ds acc M r M'
  | [], tm, acc, ch, M, obs, lg, r, M', ch', obs', lg', h, ho => by
    simp only [drawS] at h
    split at h
    · rename_i hc
      cases h
      exact ⟨fun _ => tm, fun _ => M, fun _ => .nil, fun _ => undV, rfl, rfl, rfl, rfl, fun k i hk => by simp at hk, acc, hc, fun _ h => h, fun k i hk => by simp at hk⟩
    · cases h
  | i :: rest, tm, acc, ch, M, obs, lg, r, M', ch', obs', lg', h, ho => by
    simp only [drawS] at h
    split at h
    · cases h
    · rename_i o hi
      obtain ⟨g, ch1, obs1, h1, hw⟩ := guardD_run h ho
      cases g with
      | false => exact draw_cons hi (step_off hi hw) ⟨fun _ h => h, .inr rfl⟩ (draw_run hone rest _ _ _ _ _ _ _ _ _ _ _ h1 ho)
      | true =>
        simp only [drawT] at h1
        split at h1
        · rename_i r1 hone1
          obtain ⟨v, hv, h1⟩ := kv_ok h1
          have hrv : r1 = rv v := by
            have : ((oneS P kof S N o tm).bind (kv fun v => .ret (rv v))).run ch1 M obs1 .nil = .ok r1 M ch1 obs1 .nil := by rw [hone1]; rfl
            obtain ⟨q1, q2, q3, q4, q5, _, e2⟩ := bind_ok this
            obtain ⟨u, _, e3⟩ := kv_ok e2
            cases e3
            cases hv
            rfl
          have e1 : ((oneS P kof S N o tm).bind (kv fun v => .ret (rv v))).run ch1 M obs1 .nil = .ok (rv v) M ch1 obs1 .nil := by rw [hone1, hrv]; rfl
          exact draw_cons hi (step_on hi (hone o) hw e1 (run_obs _ h1 ho)) ⟨fun _ h => h, .inr rfl⟩ (draw_run hone rest _ _ _ _ _ _ _ _ _ _ _ h1 ho)
        · obtain ⟨r1, M1, ch2, obs2, lg2, e1, e2⟩ := then_ok h1
          obtain ⟨v, hv, e2⟩ := kv_ok e2
          have hrv : r1 = rv v := by
            obtain ⟨q1, q2, q3, q4, q5, _, e5⟩ := bind_ok e1
            obtain ⟨u, _, e3⟩ := kv_ok e5
            cases e3
            cases hv
            rfl
          subst hrv
          exact draw_cons hi (step_on hi (hone o) hw e1 (run_obs _ e2 ho)) addL_mem (draw_run hone rest _ _ _ _ _ _ _ _ _ _ _ e2 ho)
end
end Go.Proofs.YthdnonoheochhaaGreatDoor
namespace Go.Proofs.YthdnonoheochhaaGreatDoor
open Go.RowKit
set_option linter.unusedVariables false
section
variable {A : Type} {ar : A → List Value → Value → Res} {P : Program} {kof : TypeId → Option (Nat × Bool)}
theorem msk_bit {o : Oper} {acc : List Nat} {j : Nat} (h : (msk o acc).testBit j = true) : ∃ e ∈ o.after, Region.binds .any e = true ∧ (e.on = j ∨ (acc.getD e.on 0).testBit j = true) := by
  have key : ∀ (l : List Edge) (s : Nat), (l.foldl (fun s e => match Region.binds .any e with
      | true => s ||| (2 ^ e.on ||| acc.getD e.on 0)
      | false => s) s).testBit j = true → s.testBit j = true ∨ ∃ e ∈ l, Region.binds .any e = true ∧ (e.on = j ∨ (acc.getD e.on 0).testBit j = true) := by
    intro l
    induction l with
    | nil => exact fun s h => .inl h
    | cons e l ih =>
      intro s h
      rcases ih _ h with h1 | ⟨e', h1, h2⟩
      · cases hb : Region.binds .any e with
        | false => simp only [hb] at h1; exact .inl h1
        | true =>
          simp only [hb] at h1
          simp only [Nat.testBit_or, Bool.or_eq_true, Nat.testBit_two_pow, decide_eq_true_eq] at h1
          rcases h1 with h1 | h1 | h1
          · exact .inl h1
          · exact .inr ⟨e, List.mem_cons_self, hb, .inl h1⟩
          · exact .inr ⟨e, List.mem_cons_self, hb, .inr h1⟩
      · exact .inr ⟨e', List.mem_cons_of_mem _ h1, h2⟩
  rcases key _ _ h with h | ⟨e, h1, h2⟩
  · simp at h
  · exact ⟨e, by simpa using h1, h2⟩
theorem befs_spec : ∀ (l : List Oper) (acc : List Nat), ∃ r, befs l acc = acc ++ r ∧ ∀ k o, l[k]? = some o → (acc ++ r).getD (acc.length + k) 0 = msk o ((acc ++ r).take (acc.length + k))
  | [], acc => ⟨[], by simp [befs], fun k o h => by simp at h⟩
  | o :: l, acc => by
    obtain ⟨r, h1, h2⟩ := befs_spec l (acc ++ [msk o acc])
    refine ⟨msk o acc :: r, by rw [befs, h1]; simp, fun k p hk => ?_⟩
    have e : acc ++ msk o acc :: r = acc ++ [msk o acc] ++ r := by simp
    cases k with
    | zero =>
      obtain rfl : o = p := by simpa using hk
      simp
    | succ k =>
      have := h2 k p (by simpa using hk)
      rw [e, ← Nat.add_assoc, Nat.add_right_comm]
      simpa using this
theorem befs_mask {ops : Array Oper} (haft : ∀ i o, ops[i]? = some o → ∀ e ∈ o.after, Region.binds .any e = true → e.on < i) (S : Nat → Prop)
    (hS : ∀ i o, ops[i]? = some o → S i → ∀ e ∈ o.after, Region.binds .any e = true → S e.on) : ∀ i j, i < ops.size → S i → ((befs ops.toList []).getD i 0).testBit j = true → S j := by
  obtain ⟨r, h1, h2⟩ := befs_spec ops.toList []
  simp only [List.nil_append, List.length_nil, Nat.zero_add] at h1 h2
  rw [h1]
  intro i
  induction i using Nat.strongRecOn with
  | _ i ih =>
    intro j hi hs hb
    have ho : ops[i]? = some ops[i] := Array.getElem?_eq_getElem hi
    rw [h2 i ops[i] (by simp [ho])] at hb
    obtain ⟨e, he, hbi, h⟩ := msk_bit hb
    have hse := hS i _ ho hs e he hbi
    have hlt := haft i _ ho e he hbi
    rcases h with h | h
    · exact h ▸ hse
    · refine ih e.on hlt j (by omega) hse ?_
      rw [List.getD_eq_getElem?_getD, List.getElem?_take, if_pos hlt] at h
      rw [List.getD_eq_getElem?_getD]
      exact h
structure Drw (ar : A → List Value → Value → Res) (P : Program) (N : Nat) (ops : Array Oper) (tmF : Nat → Nd V) (MF : Nat → List (Pl A)) (lF : Nat → Lg) (uF : Nat → V) (bef : Nat → Nat → Prop) : Prop where
  st : ∀ k, k < ops.size → StepD ar P N ops k (tmF k) (MF k) (lF k) (uF k) (MF (k + 1))
  tm : ∀ k o, ops[k]? = some o → tmF (k + 1) = putT N (tmF k) o.dst (uF k)
  dst : ∀ k j o p d, ops[k]? = some o → ops[j]? = some p → j ≠ k → p.dst = some d → o.dst ≠ some d ∧ (d ∈ o.looksAt ops → bef k j ∧ j < k)
  conf : ∀ i j n, j < ops.size → i < j → touched (lF i) n → touched (lF j) n → wrote (lF i) n ∨ wrote (lF j) n → bef j i
  aft : ∀ i o, ops[i]? = some o → ∀ e ∈ o.after, Region.binds .any e = true → e.on < i
  mask : ∀ S : Nat → Prop, (∀ i o, ops[i]? = some o → S i → ∀ e ∈ o.after, Region.binds .any e = true → S e.on) → ∀ i j, i < ops.size → S i → bef i j → S j
theorem zipIdx_mem {ops : Array Oper} {i : Nat} {o : Oper} (h : ops[i]? = some o) : (o, i) ∈ ops.toList.zipIdx := by
  rw [List.mem_iff_getElem?]
  exact ⟨i, by rw [List.getElem?_zipIdx]; simp [h]⟩
theorem apartL_spec {a b : Lg} (h : apartL a b = true) {n : Nat} (h1 : touched a n) (h2 : touched b n) (h3 : wrote a n ∨ wrote b n) : False := by
  simp only [apartL, Bool.and_eq_true] at h
  obtain ⟨e1, e2, e3⟩ := h
  have key : ∀ {x y : Nat}, Nat.beq (Nat.land x y) 0 = true → x.testBit n = true → y.testBit n = true → False := fun {x y} e hx hy => by
    have e := Nat.eq_of_beq_eq_true e
    have h1 : (Nat.land x y).testBit n = (x.testBit n && y.testBit n) := Nat.testBit_and x y n
    rw [e, hx, hy] at h1
    simp at h1
  rcases h3 with h3 | h3
  · rcases h2 with h2 | h2
    · exact key e2 h3 h2
    · exact key e1 h3 h2
  · rcases h1 with h1 | h1
    · exact key e3 h1 h3
    · exact key e1 h1 h3
theorem drw_of {N : Nat} {ops : Array Oper} (h : drawOK ops = true) {S : SR A} (hone : ∀ o tm, OneOK ar P N o tm (oneS P kof S N o tm)) {tm : Nd V} {ds : List Nat} {ch M obs lg r M' ch' obs' lg'}
    (hr : (drawS P kof S N ops (List.range ops.size) tm ds []).run ch M obs lg = .ok r M' ch' obs' lg') (ho : okObs obs') :
    ∃ tmF MF lF uF bef, Drw ar P N ops tmF MF lF uF bef ∧ tmF 0 = tm ∧ MF 0 = M ∧ r = cr .normal (tmF ops.size) ds ∧ M' = MF ops.size := by
  obtain ⟨tmF, MF, lF, uF, a1, a2, a3, a4, a5, acc', a6, _, a8⟩ := draw_run hone _ _ _ _ _ _ _ _ _ _ _ _ hr ho
  rw [List.length_range] at a3 a4
  have hidx : ∀ k, k < ops.size → (List.range ops.size)[k]? = some k := fun k hk => by rw [List.getElem?_range hk]
  have hlt : ∀ {k : Nat} {o : Oper}, ops[k]? = some o → k < ops.size := fun h => (Array.getElem?_eq_some_iff.1 h).1
  have h' := h
  simp only [drawOK, List.all_eq_true, Prod.forall, Bool.and_eq_true] at h'
  have haft : ∀ i o, ops[i]? = some o → ∀ e ∈ o.after, Region.binds .any e = true → e.on < i := fun i o hi e he hb => by
    have := (h' o i (zipIdx_mem hi)).1 e (by simpa using he)
    rw [hb] at this
    simpa using this
  refine ⟨tmF, MF, lF, uF, fun i j => ((befs ops.toList []).getD i 0).testBit j = true, ⟨fun k hk => (a5 k k (hidx k hk)).1, fun k o ho => (a5 k k (hidx k (hlt ho))).2 o ho, fun k j o p d hk hj hne hd => ?_, fun i j n hj hij h1 h2 h3 => ?_, haft, fun S hS => befs_mask haft S hS⟩, a1, a2, a3, a4⟩
  · have := (h' o k (zipIdx_mem hk)).2 p j (zipIdx_mem hj)
    rw [hd] at this
    simp only [Bool.or_eq_true, Bool.and_eq_true] at this
    rcases this with h1 | ⟨h1, h2⟩
    · exact (hne (Nat.eq_of_beq_eq_true h1).symm).elim
    · refine ⟨fun e => by simp [e] at h1, fun hm => ?_⟩
      rcases h2 with h2 | ⟨h2, h3⟩
      · simp [hm] at h2
      · exact ⟨h2, by simpa using h3⟩
  · have c1 : (i, lF i) ∈ acc' := (a8 i i (hidx i (by omega))).resolve_right fun e => by rw [e] at h1; exact t_nil h1
    have c2 : (j, lF j) ∈ acc' := (a8 j j (hidx j hj)).resolve_right fun e => by rw [e] at h2; exact t_nil h2
    simp only [confOK, Bool.or_eq_true] at a6
    rcases a6 with a6 | a6
    · exfalso
      simp only [quietL, List.all_eq_true] at a6
      have z1 := Nat.eq_of_beq_eq_true (a6 _ c1)
      have z2 := Nat.eq_of_beq_eq_true (a6 _ c2)
      simp only at z1 z2
      rcases h3 with h3 | h3
      · simp [wrote, z1] at h3
      · simp [wrote, z2] at h3
    · simp only [List.all_eq_true, Prod.forall, Bool.or_eq_true] at a6
      rcases a6 j _ c2 i _ c1 with h4 | h4 | h4
      · have : i.blt j = true := by rw [Nat.blt_eq]; exact hij
        simp [this] at h4
      · exact h4
      · exact (apartL_spec h4 h1 h2 h3).elim
end
end Go.Proofs.YthdnonoheochhaaGreatDoor
namespace Go.Proofs.YthdnonoheochhaaGreatDoor
open Go.RowKit
set_option linter.unusedVariables false
section
variable {A : Type} {ar : A → List Value → Value → Res} {P : Program} {N : Nat} {ops : Array Oper} {tmF : Nat → Nd V} {MF : Nat → List (Pl A)} {lF : Nat → Lg} {uF : Nat → V} {bef : Nat → Nat → Prop}
open Classical in
/-- The places after the steps of S. -/
noncomputable def vS (MF : Nat → List (Pl A)) (lF : Nat → Lg) (S : Nat → Bool) : Nat → Nat → Pl A
  | 0, n => Mget (MF 0) n
  | k + 1, n => if S k = true ∧ wrote (lF k) n then Mget (MF (k + 1)) n else vS MF lF S k n
noncomputable def tS (N : Nat) (ops : Array Oper) (uF : Nat → V) (S : Nat → Bool) (tm : Nd V) : Nat → Nd V
  | 0 => tm
  | k + 1 => if S k = true then putT N (tS N ops uF S tm k) ((ops[k]?).bind (·.dst)) (uF k) else tS N ops uF S tm k
def add (S : Nat → Bool) (i : Nat) : Nat → Bool := fun k => if k = i then true else S k
theorem Drw.lens (h : Drw ar P N ops tmF MF lF uF bef) {j k : Nat} (hjk : j ≤ k) (hk : k ≤ ops.size) : (MF j).length ≤ (MF k).length := by
  induction k with
  | zero =>
    obtain rfl : j = 0 := by omega
    exact Nat.le_refl _
  | succ k ih =>
    by_cases e : j = k + 1
    · subst e; exact Nat.le_refl _
    · obtain ⟨o, _, h1, _⟩ := h.st k (by omega)
      exact Nat.le_trans (ih (by omega) (by omega)) h1
structure Nx (ops : Array Oper) (S : Nat → Bool) (i : Nat) : Prop where
  lt : i < ops.size
  no : S i = false
  cl : ∀ j o, ops[j]? = some o → S j = true → ∀ e ∈ o.after, Region.binds .any e = true → S e.on = true
  rd : ∀ o, ops[i]? = some o → ∀ e ∈ o.after, Region.binds .any e = true → S e.on = true
theorem Nx.ahead {S : Nat → Bool} {i : Nat} (h : Drw ar P N ops tmF MF lF uF bef) (hn : Nx ops S i) {j : Nat} (hbf : bef i j) (hj : j ≠ i) : S j = true := by
  have := h.mask (fun k => S k = true ∨ k = i) (fun k o ho hk e he hb => by
    rcases hk with hk | hk
    · exact .inl (hn.cl k o ho hk e he hb)
    · subst hk; exact .inl (hn.rd o ho e he hb)) i j hn.lt (.inr rfl) hbf
  exact this.resolve_right hj
theorem Nx.aft {S : Nat → Bool} {i : Nat} (h : Drw ar P N ops tmF MF lF uF bef) (hn : Nx ops S i) {j : Nat} (hj : j < ops.size) (hs : S j = true) : ¬ bef j i := fun hb => by
  have := h.mask (fun k => S k = true) (fun k o ho hk e he hb => hn.cl k o ho hk e he hb) j i hj hs hb
  rw [hn.no] at this
  cases this
theorem vS_touch {S : Nat → Bool} {i : Nat} (h : Drw ar P N ops tmF MF lF uF bef) (hn : Nx ops S i) {n : Nat} (ht : touched (lF i) n) : ∀ k, k ≤ ops.size → vS MF lF S k n = if k ≤ i then Mget (MF k) n else Mget (MF i) n := by
  intro k
  induction k with
  | zero => intro _; rw [if_pos (Nat.zero_le _)]; rfl
  | succ k ih =>
    intro hk
    have ih := ih (by omega)
    obtain ⟨o, ho, _, _, hunw, _⟩ := h.st k (by omega)
    by_cases hki : k < i
    · rw [if_pos (by omega)] at ih ⊢
      by_cases hw : wrote (lF k) n
      · have hS : S k = true := hn.ahead h (h.conf k i n hn.lt hki (wrote_touched hw) ht (.inl hw)) (by omega)
        simp only [vS, hS, hw, and_self, if_true]
      · simp only [vS, hw, and_false, if_false]
        rw [ih, hunw n hw]
    · rw [if_neg (by omega)]
      have hno : ¬ (S k = true ∧ wrote (lF k) n) := fun ⟨h1, h2⟩ => by
        by_cases e : k = i
        · subst e; rw [hn.no] at h1; cases h1
        · exact hn.aft h (by omega) h1 (h.conf i k n (by omega) (by omega) ht (wrote_touched h2) (.inr h2))
      simp only [vS, hno, if_false]
      by_cases e : k = i
      · subst e; rw [ih, if_pos (Nat.le_refl _)]
      · rw [ih, if_neg (by omega)]
theorem vS_add {S : Nat → Bool} {i : Nat} (h : Drw ar P N ops tmF MF lF uF bef) (hn : Nx ops S i) (n : Nat) : vS MF lF (add S i) ops.size n = (open Classical in if wrote (lF i) n then Mget (MF (i + 1)) n else vS MF lF S ops.size n) := by
  by_cases hw : wrote (lF i) n
  · rw [if_pos hw]
    have key : ∀ k, k ≤ ops.size → i < k → vS MF lF (add S i) k n = Mget (MF (i + 1)) n := fun k => by
      induction k with
      | zero => intro _ h; omega
      | succ k ih =>
        intro hk hik
        by_cases e : k = i
        · subst e
          simp only [vS, add, if_true, hw, and_self]
        · have hno : ¬ (S k = true ∧ wrote (lF k) n) := fun ⟨h1, h2⟩ => hn.aft h (by omega) h1 (h.conf i k n (by omega) (by omega) (wrote_touched hw) (wrote_touched h2) (.inr h2))
          simp only [vS, add, if_neg e, hno, if_false]
          exact ih (by omega) (by omega)
    exact key _ (Nat.le_refl _) hn.lt
  · rw [if_neg hw]
    generalize ops.size = N
    induction N with
    | zero => rfl
    | succ k ih =>
      by_cases e : k = i
      · subst e
        simp only [vS, hw, and_false, if_false]
        exact ih
      · have ea : add S i k = S k := if_neg e
        simp only [vS]
        by_cases hc : S k = true ∧ wrote (lF k) n
        · rw [if_pos hc, if_pos (by rw [ea]; exact hc)]
        · rw [if_neg hc, if_neg (by rw [ea]; exact hc)]
          exact ih
theorem vS_all {S : Nat → Bool} (h : Drw ar P N ops tmF MF lF uF bef) (hS : ∀ k, k < ops.size → S k = true) (n : Nat) : ∀ k, k ≤ ops.size → vS MF lF S k n = Mget (MF k) n := by
  intro k
  induction k with
  | zero => intro _; rfl
  | succ k ih =>
    intro hk
    obtain ⟨o, ho, _, _, hunw, _⟩ := h.st k (by omega)
    by_cases hw : wrote (lF k) n
    · simp only [vS, hS k (by omega), hw, and_self, if_true]
    · simp only [vS, hw, and_false, if_false]
      rw [ih (by omega), hunw n hw]
theorem vS_none {S : Nat → Bool} (hS : ∀ k, S k = false) (n : Nat) : ∀ k, vS MF lF S k n = Mget (MF 0) n
  | 0 => rfl
  | k + 1 => by simp only [vS, hS k, Bool.false_eq_true, false_and, if_false]; exact vS_none hS n k
theorem slot_set {N : Nat} {tm : Nd V} {d : Nat} {v : V} {t : Nat} : slot N (setS N tm d v) t = if d = t ∧ t < N then v else slot N tm t := by
  have hl := lev_le N
  have hd := blt_dec d N
  have ht := blt_dec t N
  unfold setS
  by_cases h1 : d < N
  · rw [hd, decide_eq_true h1]
    unfold slot
    by_cases h2 : t < N
    · rw [ht, decide_eq_true h2]
      show (tm.put v (lev N) d).get undV (lev N) t = if d = t ∧ t < N then v else tm.get undV (lev N) t
      rw [get_put, Nat.mod_eq_of_lt (show d < 8 ^ lev N by omega), Nat.mod_eq_of_lt (show t < 8 ^ lev N by omega)]
      simp [h2]
    · have hno : ¬ (d = t ∧ t < N) := fun h => h2 h.2
      rw [ht, decide_eq_false h2, if_neg hno]
  · have hno : ¬ (d = t ∧ t < N) := fun h => h1 (h.1 ▸ h.2)
    rw [hd, decide_eq_false h1, if_neg hno]
theorem putT_get_ne {N : Nat} {tm : Nd V} {d : Option Tmp} {v : V} {t : Nat} (h : d ≠ some t) : slot N (putT N tm d v) t = slot N tm t := by
  cases d with
  | none => rfl
  | some d => exact slot_set.trans (if_neg fun e => h (by rw [e.1]))
theorem putT_get {N : Nat} {tm tm' : Nd V} {v : V} {t : Nat} (h : slot N tm' t = slot N tm t) : slot N (putT N tm' (some t) v) t = slot N (putT N tm (some t) v) t := by
  simp only [putT, slot_set]
  rw [h]
theorem putT_comm {N : Nat} {tm : Nd V} {d e : Option Tmp} {v u : V} (h : ∀ t, d = some t → e ≠ some t) : putT N (putT N tm d v) e u = putT N (putT N tm e u) d v := by
  cases d with
  | none => rfl
  | some d =>
    cases e with
    | none => rfl
    | some e =>
      have hne : d ≠ e := fun hh => h d rfl (by rw [hh])
      have hl := lev_le N
      have hd := blt_dec d N
      have he := blt_dec e N
      simp only [putT, setS]
      by_cases h1 : d < N
      · by_cases h2 : e < N
        · rw [hd, he, decide_eq_true h1, decide_eq_true h2]
          exact put_comm v u _ _ d e (by rw [Nat.mod_eq_of_lt (Nat.lt_of_lt_of_le h1 hl), Nat.mod_eq_of_lt (Nat.lt_of_lt_of_le h2 hl)]; exact hne)
        · rw [he, decide_eq_false h2]
      · rw [hd, decide_eq_false h1]
theorem tS_on {S : Nat → Bool} {tm : Nd V} {k : Nat} {o : Oper} (ho : ops[k]? = some o) (h : S k = true) : tS N ops uF S tm (k + 1) = putT N (tS N ops uF S tm k) o.dst (uF k) := by
  simp only [tS, h, if_true, ho, Option.bind_some]
theorem tS_off {S : Nat → Bool} {tm : Nd V} {k : Nat} (h : S k = false) : tS N ops uF S tm (k + 1) = tS N ops uF S tm k := by
  simp only [tS, h, Bool.false_eq_true, if_false]
theorem tS_look {S : Nat → Bool} {i : Nat} (h : Drw ar P N ops tmF MF lF uF bef) (hn : Nx ops S i) {o : Oper} (ho : ops[i]? = some o) {t : Nat} (ht : t ∈ o.looksAt ops) : slot N (tS N ops uF S (tmF 0) ops.size) t = slot N (tmF i) t := by
  have key1 : ∀ k, k ≤ i → slot N (tS N ops uF S (tmF 0) k) t = slot N (tmF k) t := fun k => by
    induction k with
    | zero => intro _; rfl
    | succ k ih =>
      intro hk
      have ih := ih (by omega)
      have hlt := hn.lt
      have hp : ops[k]? = some ops[k] := Array.getElem?_eq_getElem (by omega)
      rw [h.tm k _ hp]
      by_cases hdt : ops[k].dst = some t
      · have hS : S k = true := hn.ahead h ((h.dst i k o _ t ho hp (by omega) hdt).2 ht).1 (by omega)
        rw [tS_on hp hS, hdt]
        exact putT_get ih
      · rw [putT_get_ne hdt]
        cases hS : S k with
        | true => rw [tS_on hp hS, putT_get_ne hdt]; exact ih
        | false => rw [tS_off hS]; exact ih
  have key2 : ∀ m, i + m ≤ ops.size → slot N (tS N ops uF S (tmF 0) (i + m)) t = slot N (tmF i) t := fun m => by
    induction m with
    | zero => intro _; exact key1 i (Nat.le_refl _)
    | succ m ih =>
      intro hk
      have ih := ih (by omega)
      have hp : ops[i + m]? = some ops[i + m] := Array.getElem?_eq_getElem (by omega)
      rw [← Nat.add_assoc]
      cases hS : S (i + m) with
      | false => rw [tS_off hS]; exact ih
      | true =>
        rw [tS_on hp hS]
        by_cases e : m = 0
        · subst e; rw [Nat.add_zero, hn.no] at hS; cases hS
        · rw [putT_get_ne fun hdt => by
            have := ((h.dst i (i + m) o _ t ho hp (by omega) hdt).2 ht).2
            omega]
          exact ih
  have := key2 (ops.size - i) (by have := hn.lt; omega)
  rwa [show i + (ops.size - i) = ops.size by have := hn.lt; omega] at this
theorem tS_add {S : Nat → Bool} {i : Nat} (h : Drw ar P N ops tmF MF lF uF bef) (hn : Nx ops S i) {o : Oper} (ho : ops[i]? = some o) : tS N ops uF (add S i) (tmF 0) ops.size = putT N (tS N ops uF S (tmF 0) ops.size) o.dst (uF i) := by
  have key1 : ∀ k, k ≤ i → tS N ops uF (add S i) (tmF 0) k = tS N ops uF S (tmF 0) k := fun k => by
    induction k with
    | zero => intro _; rfl
    | succ k ih =>
      intro hk
      have ih := ih (by omega)
      have hlt := hn.lt
      have hp : ops[k]? = some ops[k] := Array.getElem?_eq_getElem (by omega)
      have ea : add S i k = S k := if_neg (by omega)
      cases hS : S k with
      | true => rw [tS_on hp (ea.trans hS), tS_on hp hS, ih]
      | false => rw [tS_off (ea.trans hS), tS_off hS, ih]
  have key2 : ∀ m, i + 1 + m ≤ ops.size → tS N ops uF (add S i) (tmF 0) (i + 1 + m) = putT N (tS N ops uF S (tmF 0) (i + 1 + m)) o.dst (uF i) := fun m => by
    induction m with
    | zero =>
      intro _
      rw [Nat.add_zero, tS_on ho (show add S i i = true from if_pos rfl), tS_off hn.no, key1 i (Nat.le_refl _)]
    | succ m ih =>
      intro hk
      have ih := ih (by omega)
      have hp : ops[i + 1 + m]? = some ops[i + 1 + m] := Array.getElem?_eq_getElem (by omega)
      have ea : add S i (i + 1 + m) = S (i + 1 + m) := if_neg (by omega)
      rw [← Nat.add_assoc]
      cases hS : S (i + 1 + m) with
      | true =>
        rw [tS_on hp (ea.trans hS), tS_on hp hS, ih]
        exact putT_comm fun t h1 h2 => (h.dst (i + 1 + m) i _ _ t hp ho (by omega) h1).1 h2
      | false => rw [tS_off (ea.trans hS), tS_off hS, ih]
  have := key2 (ops.size - (i + 1)) (by have := hn.lt; omega)
  rwa [show i + 1 + (ops.size - (i + 1)) = ops.size by have := hn.lt; omega] at this
theorem tS_all {S : Nat → Bool} (h : Drw ar P N ops tmF MF lF uF bef) (hS : ∀ k, k < ops.size → S k = true) : ∀ k, k ≤ ops.size → tS N ops uF S (tmF 0) k = tmF k := by
  intro k
  induction k with
  | zero => intro _; rfl
  | succ k ih =>
    intro hk
    have hp : ops[k]? = some ops[k] := Array.getElem?_eq_getElem (by omega)
    have hd : (ops[k]?).bind (·.dst) = ops[k].dst := by rw [hp]; rfl
    simp only [tS, hd, hS k (by omega), if_true]
    rw [ih (by omega), h.tm k _ hp]
theorem tS_none {S : Nat → Bool} {tm : Nd V} (hS : ∀ k, S k = false) : ∀ k, tS N ops uF S tm k = tm
  | 0 => rfl
  | k + 1 => by simp only [tS, hS k, Bool.false_eq_true, if_false]; exact tS_none hS k
end
end Go.Proofs.YthdnonoheochhaaGreatDoor
namespace Go.Proofs.YthdnonoheochhaaGreatDoor
open Go.RowKit
set_option linter.unusedVariables false
section
variable {w0 w w' : World} {D : Nat → Prop} {N N' : Nat} {R R' : Nat → Res}
theorem OwnN.low (h : OwnN w0 D w N R) (hN : N' ≤ N) : OwnN w0 D w N' R := by
  obtain ⟨h1, Fs, h2, h3⟩ := h
  exact ⟨h1, Fs, fun i hi => h2 i (by omega), fun i j hi hj => h3 i j (by omega) (by omega)⟩
theorem OwnN.high (h : OwnN w0 D w N R) (hR : ∀ i, N ≤ i → i < N' → R i = noR) : OwnN w0 D w N' R := by
  obtain ⟨h1, Fs, h2, h3⟩ := h
  refine ⟨h1, fun i b => i < N ∧ Fs i b, fun i hi => ?_, fun i j hi hj hij b a c => h3 i j a.1 c.1 hij b a.2 c.2⟩
  by_cases e : i < N
  · have he : (fun b => i < N ∧ Fs i b) = Fs i := by funext b; simp [e]
    exact ⟨by show (R i).P w (fun b => i < N ∧ Fs i b); rw [he]; exact (h2 i e).1, fun b hb => (h2 i e).2 b hb.2⟩
  · rw [hR i (by omega) hi]
    exact ⟨fun b hb => e hb.1, fun b hb => (e hb.1).elim⟩
end
section
variable {A : Type} {ar : A → List Value → Value → Res} {P : Program} {kof : TypeId → Option (Nat × Bool)} {fo : Option Nat} {df : List Deferred} {N : Nat} {ops : Array Oper} {tmF : Nat → Nd V} {MF : Nat → List (Pl A)} {lF : Nat → Lg} {uF : Nat → V} {bef : Nat → Nat → Prop}
def nS (MF : Nat → List (Pl A)) (N : Nat) (B : Nat → Prop) (S : Nat → Bool) (n : Nat) : Prop := B n ∨ ∃ j, j < N ∧ S j = true ∧ (MF j).length ≤ n ∧ n < (MF (j + 1)).length
theorem nS_add {B : Nat → Prop} {S : Nat → Bool} {i N : Nat} (hi : i < N) : ∀ n, wid (nS MF N B S) (MF i).length (MF (i + 1)).length n → nS MF N B (add S i) n := fun n h => by
  rcases h with (h | ⟨j, h1, h2, h3⟩) | h
  · exact .inl h
  · exact .inr ⟨j, h1, by unfold add; split <;> simp_all, h3⟩
  · exact .inr ⟨i, hi, if_pos rfl, h⟩
theorem nS_mono {B : Nat → Prop} {S : Nat → Bool} {i N : Nat} : ∀ n, nS MF N B S n → nS MF N B (add S i) n := fun n h => by
  rcases h with h | ⟨j, h1, h2, h3⟩
  · exact .inl h
  · exact .inr ⟨j, h1, by unfold add; split <;> simp_all, h3⟩
structure InvD (ar : A → List Value → Value → Res) (N : Nat) (ops : Array Oper) (tmF : Nat → Nd V) (MF : Nat → List (Pl A)) (lF : Nat → Lg) (uF : Nat → V) (B : Nat → Prop) (w0 : World) (D : Nat → Prop) (ρ0 : En) (S : Nat → Bool) (ρ : En) (w : World) : Prop where
  own : OwnN w0 D w (MF ops.size).length fun n => denP ar ρ n (vS MF lF S ops.size n)
  ext : Ext (MF 0).length (MF ops.size).length ρ0 ρ
  sc : ∀ n, (vS MF lF S ops.size n).sc (nS MF ops.size B S)
  st : scS (nS MF ops.size B S) (tS N ops uF S (tmF 0) ops.size)
theorem inv_step {B : Nat → Prop} {w0 w : World} {D : Nat → Prop} {ρ0 ρ : En} {S : Nat → Bool} {i : Nat} (h : Drw ar P N ops tmF MF lF uF bef) (hn : Nx ops S i) (hB : ∀ n, B n → n < (MF 0).length ∨ (MF ops.size).length ≤ n)
    (hI : InvD ar N ops tmF MF lF uF B w0 D ρ0 S ρ w) {K : Act → World → Prop} {Q : Exit → Act → World → Prop}
    (hK : ∀ ρ' w', InvD ar N ops tmF MF lF uF B w0 D ρ0 (add S i) ρ' w' → K (actN ρ' N (tS N ops uF (add S i) (tmF 0) ops.size) df) w') :
    wpOpIn (Fe fo) 0 P ops Q i K (actN ρ N (tS N ops uF S (tmF 0) ops.size) df) w := by
  classical
  obtain ⟨o, ho, hlen, hnew, hunw, hst⟩ := h.st i hn.lt
  have hL := h.lens (Nat.zero_le i) (Nat.le_of_lt hn.lt)
  have hH := h.lens (show i + 1 ≤ ops.size from hn.lt) (Nat.le_refl _)
  have hval : ∀ n, touched (lF i) n → vS MF lF S ops.size n = Mget (MF i) n := fun n ht => by
    rw [vS_touch h hn ht _ (Nat.le_refl _)]
    split
    · rw [show ops.size = i by have := hn.lt; omega]
    · rfl
  -- the memory as the step sees it
  let M2 : List (Pl A) := (List.range (MF i).length).map fun n => if touched (lF i) n then Mget (MF i) n else .none
  have hM2l : M2.length = (MF i).length := by simp [M2]
  have hM2 : ∀ n, n < (MF i).length → Mget M2 n = if touched (lF i) n then Mget (MF i) n else .none := fun n hlt => by
    unfold Mget
    rw [List.getD_eq_getElem?_getD]
    simp [M2, hlt, Mget]
  obtain ⟨M2', g1, g2, g3, hgo⟩ := hst (tS N ops uF S (tmF 0) ops.size) M2 (fun t ht => tS_look h hn ho ht) hM2l (fun n ht hlt => by rw [hM2 n hlt, if_pos ht])
  obtain ⟨G, hG, hback⟩ := OwnN.loc hI.own (touched (lF i))
  have hnames : ∀ n, nS MF ops.size B S n → n < (MF i).length ∨ (MF (i + 1)).length ≤ n := fun n hh => by
    rcases hh with hh | ⟨j, h1, h2, h3, h4⟩
    · rcases hB n hh with h5 | h5
      · exact .inl (by omega)
      · exact .inr (by omega)
    · have hne : j ≠ i := fun e => by subst e; rw [hn.no] at h2; cases h2
      by_cases hji : j < i
      · have := h.lens (show j + 1 ≤ i by omega) (Nat.le_of_lt hn.lt)
        exact .inl (by omega)
      · have := h.lens (show i + 1 ≤ j by omega) (Nat.le_of_lt h1)
        exact .inr (by omega)
  refine hgo (nS MF ops.size B S) ρ w G w hnames ?_ (fun n => ?_) hI.st fo df K Q fun ρ' w' hE hA hu hsc => ?_
  · unfold At
    rw [hM2l]
    refine (hG.low (by omega)).congr fun n hlt => ?_
    rw [hM2 n hlt]
    by_cases ht : touched (lF i) n
    · rw [if_pos ht, if_pos ht, hval n ht]
    · rw [if_neg ht, if_neg ht]; rfl
  · by_cases hlt : n < (MF i).length
    · rw [hM2 n hlt]
      by_cases ht : touched (lF i) n
      · rw [if_pos ht, ← hval n ht]; exact hI.sc n
      · rw [if_neg ht]; trivial
    · rw [Mget_ge (by omega)]; trivial
  · have heq : ∀ n, nS MF ops.size B S n → ρ' n = ρ n := fun n hh => hE n (hnames n hh)
    have hsame : ∀ n, ¬ wrote (lF i) n → vS MF lF (add S i) ops.size n = vS MF lF S ops.size n := fun n hw => by rw [vS_add h hn, if_neg hw]
    have hw' : ∀ n, wrote (lF i) n → vS MF lF (add S i) ops.size n = Mget M2' n := fun n hw => by rw [vS_add h hn, if_pos hw, g3 n (.inr hw)]
    have htu : ∀ n, touched (lF i) n → ¬ wrote (lF i) n → vS MF lF S ops.size n = Mget M2' n := fun n ht hw => by
      rw [hval n ht]
      by_cases hlt : n < (MF i).length
      · rw [g2 n hlt hw, hM2 n hlt, if_pos ht]
      · rw [g3 n (.inl (by omega)), hunw n hw]
    have hno : ∀ n, ¬ touched (lF i) n → Mget M2' n = .none := fun n ht => by
      by_cases hlt : n < (MF i).length
      · rw [g2 n hlt fun hw => ht (wrote_touched hw), hM2 n hlt, if_neg ht]
      · refine Mget_ge ?_
        rw [g1]
        rcases Nat.lt_or_ge n (MF (i + 1)).length with h1 | h1
        · exact (ht (wrote_touched (hnew n (by omega) h1))).elim
        · exact h1
    have hinv : InvD ar N ops tmF MF lF uF B w0 D ρ0 (add S i) ρ' w' := by
      refine ⟨?_, fun n hh => ?_, fun n => ?_, ?_⟩
      · have h1 : OwnN w G w' (MF ops.size).length fun n => denP ar ρ' n (Mget M2' n) := OwnN.high hA fun n h1 _ => by rw [Mget_ge h1]; rfl
        refine (hback w' _ _ (Nat.le_refl _) h1 fun n _ ht => by rw [hno n ht]; rfl).congr fun n hlt => ?_
        by_cases ht : touched (lF i) n
        · rw [if_neg fun hh => hh.2 ht]
          by_cases hw : wrote (lF i) n
          · rw [hw' n hw]
          · rw [hsame n hw, htu n ht hw]
        · rw [if_pos ⟨hlt, ht⟩, hsame n fun hw => ht (wrote_touched hw)]
          -- an untouched place
          by_cases hin : n < (MF i).length ∨ (MF (i + 1)).length ≤ n
          · exact denP_eq ar heq (hE n hin) _ (hI.sc n)
          · exact (ht (wrote_touched (hnew n (by omega) (by omega)))).elim
      · rw [hE n (by omega)]
        exact hI.ext n hh
      · by_cases hw : wrote (lF i) n
        · rw [hw' n hw]
          exact Pl.sc_mono (nS_add hn.lt) _ (hsc n)
        · rw [hsame n hw]
          exact Pl.sc_mono nS_mono _ (hI.sc n)
      · rw [tS_add h hn ho]
        exact putT_sc (Nd.All.mono (fun v hv => V.sc_mono nS_mono v hv) hI.st) (V.sc_mono (nS_add hn.lt) _ hu) _
    have := hK ρ' w' hinv
    rwa [tS_add h hn ho] at this
def left (S : Nat → Bool) : Nat → Nat
  | 0 => 0
  | k + 1 => left S k + if S k = true then 0 else 1
theorem left_on {S : Nat → Bool} {k : Nat} (h : S k = true) : left S (k + 1) = left S k := by simp [left, h]
theorem left_off {S : Nat → Bool} {k : Nat} (h : S k = false) : left S (k + 1) = left S k + 1 := by simp [left, h]
theorem left_add {S : Nat → Bool} {i : Nat} (hi : S i = false) : ∀ N, (N ≤ i → left S N = left (add S i) N) ∧ (i < N → left S N = left (add S i) N + 1)
  | 0 => ⟨fun _ => rfl, fun h => by omega⟩
  | k + 1 => by
    obtain ⟨h1, h2⟩ := left_add hi k
    by_cases e : k = i
    · subst e
      have ea : add S k k = true := if_pos rfl
      exact ⟨fun h => by omega, fun _ => by rw [left_off hi, left_on ea, h1 (Nat.le_refl _)]⟩
    · have ea : add S i k = S k := if_neg e
      cases hs : S k with
      | true =>
        rw [left_on hs, left_on (ea.trans hs)]
        exact ⟨fun h => h1 (by omega), fun h => h2 (by omega)⟩
      | false =>
        rw [left_off hs, left_off (ea.trans hs)]
        exact ⟨fun h => by rw [h1 (by omega)], fun h => by rw [h2 (by omega)]⟩
theorem left_zero {S : Nat → Bool} : ∀ {N : Nat}, left S N = 0 → ∀ k, k < N → S k = true
  | 0, _, k, hk => by omega
  | N + 1, h, k, hk => by
    simp only [left] at h
    by_cases e : k = N
    · subst e
      by_cases hs : S k = true
      · exact hs
      · rw [if_neg hs] at h; omega
    · exact left_zero (N := N) (by omega) k (by omega)
theorem any_inv {B : Nat → Prop} {w0 : World} {D : Nat → Prop} {ρ0 : En} (h : Drw ar P N ops tmF MF lF uF bef) (hB : ∀ n, B n → n < (MF 0).length ∨ (MF ops.size).length ≤ n) {Q : Exit → Act → World → Prop}
    (hQ : ∀ S ρ w, (∀ k, k < ops.size → S k = true) → InvD ar N ops tmF MF lF uF B w0 D ρ0 S ρ w → Q .normal (actN ρ N (tS N ops uF S (tmF 0) ops.size) df) w) :
    ∀ (fuel : Nat) (listed : Array Bool) (S : Nat → Bool) (ρ : En) (w : World), listed.size = ops.size → (∀ k, listed.getD k false = S k) → (∀ j o, ops[j]? = some o → S j = true → ∀ e ∈ o.after, Region.binds .any e = true → S e.on = true) → left S ops.size ≤ fuel →
      InvD ar N ops tmF MF lF uF B w0 D ρ0 S ρ w → wpAnyIn (Fe fo) 0 P .any ops Q fuel listed (actN ρ N (tS N ops uF S (tmF 0) ops.size) df) w := by
  intro fuel
  induction fuel with
  | zero =>
    intro listed S ρ w hsz hS hcl hleft hI
    have hall := left_zero (show left S ops.size = 0 by omega)
    refine ⟨List.eq_nil_iff_forall_not_mem.2 fun i hi => ?_, hQ S ρ w hall hI⟩
    obtain ⟨h1, o, h2, _⟩ := mem_ready.1 hi
    have hlt : i < ops.size := (Array.getElem?_eq_some_iff.1 h2).1
    have h3 := hall i hlt
    rw [← hS i] at h3
    have hlt' : i < listed.size := by omega
    simp [hlt'] at h1 h3
    rw [h1] at h3
    cases h3
  | succ fuel ih =>
    intro listed S ρ w hsz hS hcl hleft hI
    refine ⟨fun hnil => hQ S ρ w (fun k => ?_) hI, fun i hi => ?_⟩
    · induction k using Nat.strongRecOn with
      | _ k ihk =>
        intro hk
        cases hs : S k with
        | true => rfl
        | false =>
          exfalso
          have ho : ops[k]? = some ops[k] := Array.getElem?_eq_getElem hk
          have : k ∈ Region.ready .any ops listed := mem_ready.2 ⟨by
            have h3 := hS k
            have hlt' : k < listed.size := by omega
            simp [hlt'] at h3 ⊢
            rw [h3, hs], _, ho, fun e he hb => by
              rw [hS]
              have := h.aft k _ ho e he hb
              exact ihk e.on this (by omega)⟩
          rw [hnil] at this
          cases this
    · obtain ⟨h1, o, h2, h3⟩ := mem_ready.1 hi
      have hlt : i < ops.size := (Array.getElem?_eq_some_iff.1 h2).1
      have hlt' : i < listed.size := by omega
      have hsi : S i = false := by
        rw [← hS i]
        simp [hlt'] at h1 ⊢
        exact h1
      have hn : Nx ops S i := ⟨hlt, hsi, hcl, fun o' ho' e he hb => by
        rw [h2] at ho'
        cases ho'
        rw [← hS]
        exact h3 e he hb⟩
      refine inv_step h hn hB hI fun ρ' w' hI' => ih _ (add S i) ρ' w' (by simpa using hsz) (fun k => ?_) (fun j p hp hj e he hb => ?_) ?_ hI'
      · unfold add
        by_cases e : k = i
        · subst e; simp [hlt']
        · rw [if_neg e, getD_set_ne false (Ne.symm e)]
          exact hS k
      · have hk : ∀ x, S x = true → add S i x = true := fun x hx => by unfold add; split <;> simp_all
        by_cases e' : j = i
        · subst e'; exact hk _ (hn.rd p hp e he hb)
        · have : add S i j = S j := if_neg e'
          rw [this] at hj
          exact hk _ (hcl j p hp hj e he hb)
      · have := (left_add hsi ops.size).2 hlt
        omega
theorem below_drawn (w : World) : Below w.heap.size w { w with drawn := w.drawn + 1 } := ⟨rfl, rfl, rfl, Nat.le_refl _, fun _ _ => rfl⟩
theorem region_draw {S : SR A} {id : Nat} {tm : Nd V} {ds : List Nat} {rd : Bool} (hm : P.follows .mixedOrders = true) (hone : ∀ o tm, OneOK ar P N o tm (oneS P kof S N o tm)) (hd : drawOK ops = true) :
    CodeOK ar P N rd (.region id ops true) tm ds (drawS P kof S N ops (List.range ops.size) tm ds []) := by
  intro ch M obs lg r M' ch' obs' lg' hr ho B ρ w0 D w K hB hA hM hsc hK fo _ Q hQ
  obtain ⟨hsc, hds⟩ := hsc
  obtain ⟨tmF, MF, lF, uF, bef, h, e1, e2, e3, e4⟩ := drw_of hd hone hr ho
  subst e1 e2 e3 e4
  have hL := h.lens (Nat.zero_le ops.size) (Nat.le_refl _)
  have hnone : ∀ k, (fun _ : Nat => false) k = false := fun _ => rfl
  refine wpIn_region_any hm ?_
  have hs : tS N ops uF (fun _ => false) (tmF 0) ops.size = tmF 0 := tS_none hnone _
  have hgo := any_inv (fo := fo) (df := mks ρ ds) (B := B) (w0 := w0) (D := D) (ρ0 := ρ) h hB (Q := Q) (fun S ρ' w' hall hI => ?_) ops.size (Array.replicate ops.size false) (fun _ => false) ρ { w with drawn := w.drawn + 1 } (by simp) (fun k => by simp [Array.getElem?_replicate]; split <;> rfl) (fun _ _ _ h => by cases h) ?_ ⟨?_, fun _ _ => rfl, fun n => ?_, ?_⟩
  · rwa [hs] at hgo
  · rw [tS_all h hall _ (Nat.le_refl _)]
    have hw : ∀ n, nS MF ops.size B S n → wid B (MF 0).length (MF ops.size).length n := fun n hh => by
      rcases hh with hh | ⟨j, h1, h2, h3, h4⟩
      · exact .inl hh
      · have := h.lens (Nat.zero_le j) (Nat.le_of_lt h1)
        have := h.lens (show j + 1 ≤ ops.size from h1) (Nat.le_refl _)
        exact .inr (by omega)
    have hst := hI.st
    rw [tS_all h hall _ (Nat.le_refl _)] at hst
    have hmk : mks ρ' ds = mks ρ ds := mks_eq (B := B) (fun n hn => hI.ext n (hB n hn)) hds
    rw [← hmk]
    refine hQ (cr .normal (tmF ops.size) ds) ρ' w' (hK ρ' w' hI.ext ?_ ⟨trivial, Nd.All.mono (fun v hv => V.sc_mono hw v hv) hst, fun m hm => .inl (hds m hm)⟩ fun n => ?_)
    · exact hI.own.congr fun n _ => by rw [vS_all h hall n _ (Nat.le_refl _)]
    · have := hI.sc n
      rw [vS_all h hall n _ (Nat.le_refl _)] at this
      exact Pl.sc_mono hw _ this
  · have : ∀ N, left (fun _ => false) N = N := fun N => by
      induction N with
      | zero => rfl
      | succ N ih => simp [left, ih]
    rw [this]
    exact Nat.le_refl _
  · refine OwnN.high (N := (MF 0).length) ((OwnN.stay hA (below_drawn w)).congr fun n _ => by rw [vS_none hnone]) fun n h1 _ => by rw [vS_none hnone, Mget_ge h1]; rfl
  · rw [vS_none hnone]
    exact Pl.sc_mono (fun _ h => .inl h) _ (hM n)
  · rw [hs]
    exact Nd.All.mono (fun v hv => V.sc_mono (fun _ h => .inl h) v hv) hsc
end
end Go.Proofs.YthdnonoheochhaaGreatDoor
namespace Go.Proofs.YthdnonoheochhaaGreatDoor
open Go.RowKit
set_option linter.unusedVariables false
section
variable {A : Type} {ar : A → List Value → Value → Res} {P : Program} {kof : TypeId → Option (Nat × Bool)} {S : SR A}
structure Entr (P : Program) (kof : TypeId → Option (Nat × Bool)) : Prop where
  mixed : P.follows .mixedOrders = true
  name : ∀ (f : FuncId) (fn : Func), P.funcs[f]? = some fn → (fn.name == "runtime.NumGoroutine") = false
  keys : KeyOK P kof
structure AllOK (ar : A → List Value → Value → Res) (P : Program) (S : SR A) : Prop where
  code : ∀ N rd c tm ds, CodeOK ar P N rd c tm ds (S.code N rd c tm ds)
  call : ∀ f args, CallOK ar P f args (S.call f args)
  entry : ∀ f args ch M obs lg r M' ch' obs' lg', (S.call f args).run ch M obs lg = .ok r M' ch' obs' lg' → ∃ fn c, P.funcs[f]? = some fn ∧ fn.body = some c
theorem denL_app (ρ : En) (l m : List V) : denL ρ (l ++ m) = denL ρ l ++ denL ρ m := by simp only [denL_map, List.map_append]
theorem denL_undef (ρ : En) (n : Nat) : denL ρ (List.replicate n undV) = List.replicate n undef := by rw [denL_map, List.map_replicate]; rfl
theorem scL_app {B : Nat → Prop} {l m : List V} (h1 : scL B l) (h2 : scL B m) : scL B (l ++ m) := scL_iff.2 fun v hv => (List.mem_append.1 hv).elim (scL_iff.1 h1 v) (scL_iff.1 h2 v)
theorem scL_map {B : Nat → Prop} {N : Nat} {tm : Nd V} (h : scS B tm) (l : List Operand) : scL B (l.map (evx N tm)) := map_scL fun x _ => evx_sc h x
noncomputable abbrev XA (P : Program) (N : Nat) (rd : Bool) (r : RT) (f : Option Nat → (Exit → Act → World → Prop) → Exit → Act → World → Prop) : En → World → (RT → En → World → Prop) → Prop := fun ρ w K => ∀ fo, (rd = false → fo = none) → ∀ Q : Exit → Act → World → Prop, (∀ r ρ' w', K r ρ' w' → Q (exOf r.x) (actN ρ' N r.s (mks ρ' r.ds)) w') → f fo Q (exOf r.x) (actN ρ N r.s (mks ρ r.ds)) w
theorem cond_den {N : Nat} {c : Operand} {tm : Nd V} {s x : Bool} (h : evx N tm c = .bool s x) (ρ : En) (df : List Deferred) : (actN ρ N tm df).eval c = .bool x := by rw [evx_den, h]; rfl
theorem code_seq (ih : AllOK ar P S) (N : Nat) (rd : Bool) (a b : Code) (tm : Nd V) (ds : List Nat) : CodeOK ar P N rd (.seq a b) tm ds ((S.code N rd a tm ds).bind fun r => match r.x with
      | .normal => S.code N rd b r.s r.ds
      | _ => .ret (cr r.x r.s r.ds)) := by
  refine Prom.bind (X3 := fun r => XA P N rd r fun fo Q => Exit.then (b.wpIn (Fe fo) 0 P Q) Q) (s2 := fun r B => scR B r) (ih.code N rd a tm ds) (fun r => ?_) (fun r B B' _ _ h => h) fun B ρ w K _ hX fo hfo Q hQ => ?_
  · obtain ⟨x, ll, tm1, ds1⟩ := r
    cases x with
    | normal => exact (ih.code N rd b tm1 ds1).imp (fun _ h => h.2) fun B ρ w K _ h fo hfo Q hQ => h fo hfo Q fun r ρ' w' hk => hQ r ρ' w' hk.2
    | exit j => exact Prom.ret (fun _ h => ⟨trivial, h.2⟩) fun ρ w K h fo hfo Q hQ => hQ (cr (.exit j) tm1 ds1) ρ w h
    | ret => exact Prom.ret (fun _ h => ⟨trivial, h.2⟩) fun ρ w K h fo hfo Q hQ => hQ (cr .ret tm1 ds1) ρ w h
  · exact wpIn_seq (hX fo hfo _ fun r ρ' w' h => h.2 fo hfo Q hQ)
theorem code_block (ih : AllOK ar P S) (N : Nat) (rd : Bool) (id : Nat) (b : Code) (tm : Nd V) (ds : List Nat) : CodeOK ar P N rd (.block id b) tm ds ((S.code N rd b tm ds).bind fun r => match r.x with
      | .exit j => (match Nat.beq j id with
        | true => .ret (cr .normal r.s r.ds)
        | false => .ret (cr r.x r.s r.ds))
      | _ => .ret (cr r.x r.s r.ds)) := by
  refine Prom.bind (X3 := fun r => XA P N rd r fun fo Q => Exit.inBlock id Q) (s2 := fun r B => scR B r) (ih.code N rd b tm ds) (fun r => ?_) (fun r B B' _ _ h => h) fun B ρ w K _ hX fo hfo Q hQ => ?_
  · obtain ⟨x, ll, tm1, ds1⟩ := r
    cases x with
    | normal => exact Prom.ret (fun _ h => ⟨trivial, h.2⟩) fun ρ w K h fo hfo Q hQ => hQ (cr .normal tm1 ds1) ρ w h
    | exit j =>
      show Prom ar (match Nat.beq j id with | true => .ret (cr .normal tm1 ds1) | false => .ret (cr (.exit j) tm1 ds1)) _ _
      split
      · rename_i hj
        have hj' : j = id := by simpa using hj
        refine Prom.ret (fun _ h => ⟨trivial, h.2⟩) fun ρ w K h fo hfo Q hQ => ?_
        show (if j = id then Q .normal _ w else Q (.exit j) _ w)
        rw [if_pos hj']
        exact hQ (cr .normal tm1 ds1) ρ w h
      · rename_i hj
        have hj' : j ≠ id := fun e => by subst e; simp at hj
        refine Prom.ret (fun _ h => ⟨trivial, h.2⟩) fun ρ w K h fo hfo Q hQ => ?_
        show (if j = id then Q .normal _ w else Q (.exit j) _ w)
        rw [if_neg hj']
        exact hQ (cr (.exit j) tm1 ds1) ρ w h
    | ret => exact Prom.ret (fun _ h => ⟨trivial, h.2⟩) fun ρ w K h fo hfo Q hQ => hQ (cr .ret tm1 ds1) ρ w h
  · exact wpIn_block (hX fo hfo _ fun r ρ' w' h => h.2 fo hfo Q hQ)
theorem code_cond (ih : AllOK ar P S) (N : Nat) (rd : Bool) (c : Operand) (a b : Code) (tm : Nd V) (ds : List Nat) : CodeOK ar P N rd (.cond c a b) tm ds (condT (evx N tm c) (S.code N rd a tm ds) (S.code N rd b tm ds)) := by
  unfold condT
  split
  case h_2 => exact Prom.fail
  rename_i s x hc
  have ht : x = true → CodeOK ar P N rd (.cond c a b) tm ds (S.code N rd a tm ds) := fun hx => (ih.code N rd a tm ds).imp (fun _ h => h) fun B ρ w K _ h fo hfo Q hQ => wpIn_cond_true (hx ▸ cond_den hc ρ _) (h fo hfo Q fun r ρ' w' hk => hQ r ρ' w' hk.2)
  have hf : x = false → CodeOK ar P N rd (.cond c a b) tm ds (S.code N rd b tm ds) := fun hx => (ih.code N rd b tm ds).imp (fun _ h => h) fun B ρ w K _ h fo hfo Q hQ => wpIn_cond_false (hx ▸ cond_den hc ρ _) (h fo hfo Q fun r ρ' w' hk => hQ r ρ' w' hk.2)
  split
  · refine Prom.ask fun y hy => ?_
    cases y with
    | true => exact ht hy
    | false => exact hf hy
  · cases x with
    | true => exact ht rfl
    | false => exact hf rfl
theorem least {p : Nat → Prop} (h : ∃ j, p j) : ∃ j, p j ∧ ∀ i, p i → j ≤ i := by
  obtain ⟨j, hj⟩ := h
  induction j using Nat.strongRecOn with
  | _ j ih =>
    by_cases h : ∃ i, i < j ∧ p i
    · obtain ⟨i, hi, hp⟩ := h
      exact ih i hi hp
    · exact ⟨j, hj, fun i hi => by
        rcases Nat.lt_or_ge i j with h1 | h1
        · exact (h ⟨i, h1, hi⟩).elim
        · exact h1⟩
open Classical in
noncomputable def lst (p : Nat → Prop) : Nat := if h : ∃ j, p j then Classical.choose (least h) else 0
theorem lst_spec {p : Nat → Prop} (h : ∃ j, p j) : p (lst p) ∧ ∀ i, p i → lst p ≤ i := by
  unfold lst
  rw [dif_pos h]
  exact Classical.choose_spec (least h)
theorem code_loop {tbl : FuncId → Option (List V → T A)} {n : Nat} (ih : ∀ m, m < n → AllOK ar P (evS P kof tbl m)) (N : Nat) (rd : Bool) (b : Code) (tm : Nd V) (ds : List Nat) : CodeOK ar P N rd (.loop b) tm ds ((evS P kof tbl n).code N rd (.loop b) tm ds) := by
  intro ch M obs lg r M' ch' obs' lg' hr ho B ρ w0 D w K hB hA hM hsc hK fo hfo Q hQ
  -- the states that the loop comes to
  let St : Nat → Act → World → Prop := fun j a' w' => ∃ tm1 ds1 ch1 M1 obs1 lg1 ρ1, ((evS P kof tbl j).code N rd (.loop b) tm1 ds1).run ch1 M1 obs1 lg1 = .ok r M' ch' obs' lg' ∧ a' = actN ρ1 N tm1 (mks ρ1 ds1) ∧ M.length ≤ M1.length ∧ Ext M.length M1.length ρ ρ1 ∧ At ar w0 D w' ρ1 M1 ∧ (scS (wid B M.length M1.length) tm1 ∧ ∀ m ∈ ds1, wid B M.length M1.length m) ∧ scM (wid B M.length M1.length) M1
  refine wpIn_loop (fun a' w' => ∃ j, j ≤ n ∧ St j a' w') (fun a' w' => lst fun j => j ≤ n ∧ St j a' w') ⟨n, Nat.le_refl _, tm, ds, ch, M, obs, lg, ρ, hr, rfl, Nat.le_refl _, Ext.rfl', hA, ⟨Nd.All.mono (fun v hv => V.sc_mono wid_l v hv) hsc.1, fun m hm => wid_l m (hsc.2 m hm)⟩, fun i => Pl.sc_mono wid_l _ (hM i)⟩ ?_
  intro a1 w1 hI
  obtain ⟨⟨hjn, tm1, ds1, ch1, M1, obs1, lg1, ρ1, hrun, rfl, hMl, hE, hA1, hs1, hM1⟩, hmin⟩ := lst_spec hI
  cases hj : (lst fun j => j ≤ n ∧ St j (actN ρ1 N tm1 (mks ρ1 ds1)) w1) with
  | zero => rw [hj] at hrun; cases hrun
  | succ j =>
    rw [hj] at hrun hjn
    simp only [evS, codeS] at hrun
    obtain ⟨r2, M2, ch2, obs2, lg2, e1, e2⟩ := bind_ok hrun
    have l1 := run_len _ e1
    have l2 := run_len _ e2
    refine (ih j (by omega)).code N rd b tm1 ds1 ch1 M1 obs1 lg1 r2 M2 ch2 obs2 lg2 e1 (run_obs _ e2 ho) (wid B M.length M1.length) ρ1 w0 D w1 (fun r' ρ' w' => r' = r2 ∧ Ext M1.length M2.length ρ1 ρ' ∧ At ar w0 D w' ρ' M2 ∧ scR (wid (wid B M.length M1.length) M1.length M2.length) r2 ∧ scM (wid (wid B M.length M1.length) M1.length M2.length) M2) (fun k hk => (wid_lt hB hMl k hk).imp id fun h => Nat.le_trans l2 h) hA1 hM1 hs1 (fun ρ' w' a b c d => ⟨rfl, a, b, c, d⟩) fo hfo _ ?_
    rintro r' ρ' w' ⟨rfl, hE2, hA2, hs2, hM2⟩
    have hE3 := hE.trans hE2 hMl l1
    have hs3 := scR_mono (wid_wid hMl l1) hs2
    have hM3 : scM (wid B M.length M2.length) M2 := fun i => Pl.sc_mono (wid_wid hMl l1) _ (hM2 i)
    obtain ⟨x, ll2, tm2, ds2⟩ := r'
    cases x with
    | normal =>
      have hst : ∃ i, i ≤ n ∧ St i (actN ρ' N tm2 (mks ρ' ds2)) w' := ⟨j, by omega, tm2, ds2, ch2, M2, obs2, lg2, ρ', e2, rfl, by omega, hE3, hA2, hs3.2, hM3⟩
      refine ⟨hst, ?_⟩
      have : lst (fun j => j ≤ n ∧ St j (actN ρ' N tm2 (mks ρ' ds2)) w') ≤ j := (lst_spec hst).2 j ⟨by omega, tm2, ds2, ch2, M2, obs2, lg2, ρ', e2, rfl, by omega, hE3, hA2, hs3.2, hM3⟩
      show lst (fun j => j ≤ n ∧ St j (actN ρ' N tm2 (mks ρ' ds2)) w') < j + 1
      omega
    | exit i => cases e2; exact hQ (cr (.exit i) tm2 ds2) ρ' w' (hK ρ' w' hE3 hA2 ⟨trivial, hs3.2⟩ hM3)
    | ret => cases e2; exact hQ (cr .ret tm2 ds2) ρ' w' (hK ρ' w' hE3 hA2 ⟨trivial, hs3.2⟩ hM3)
theorem Prom.scs {t : T A} {s s' : (Nat → Prop) → Prop} {X : En → World → (RT → En → World → Prop) → Prop} (h : Prom ar t s X) (hs : ∀ B, s' B → s B) : Prom ar t s' X :=
  fun ch M obs lg r M' ch' obs' lg' hr ho B ρ w0 D w K hB hA hM hsc hK => h ch M obs lg r M' ch' obs' lg' hr ho B ρ w0 D w K hB hA hM (hs B hsc) hK
theorem ops_cons (N : Nat) (hone : ∀ o tm, OneOK ar P N o tm (oneS P kof S N o tm)) (ops : Array Oper) (i : Nat) (rest : List Nat) (hrest : ∀ tm ds, OpsOK ar P N ops rest tm ds (opsS P kof S N ops rest tm ds)) (tm : Nd V) (ds : List Nat) : OpsOK ar P N ops (i :: rest) tm ds (match ops[i]? with
    | none => .fail 85
    | some o => guardD N o ops tm fun g => match g with
      | false => opsS P kof S N ops rest (putT N tm o.dst undV) ds
      | true => (oneS P kof S N o tm).bind (kv fun v => opsS P kof S N ops rest (putT N tm o.dst v) ds)) := by
  split
  case h_1 => exact Prom.fail
  rename_i o ho
  refine guardD_prom fun g hw => ?_
  have hstep : ∀ fo ρ df w Q, wpOpsIn (Fe fo) 0 P ops Q (i :: rest) (actN ρ N tm df) w = (if Region.wanted o (yielded ops (denL ρ (lV N tm)).toArray) then o.wpIn (Fe fo) 0 P (actN ρ N tm df) w (wpOpsIn (Fe fo) 0 P ops Q rest) Q else (∀ f, o.about P w (actN ρ N tm df).eval = some f → (Fe fo).fn f) ∧ wpOpsIn (Fe fo) 0 P ops Q rest ((actN ρ N tm df).put o.dst undef) w) := fun fo ρ df w Q => by
    simp only [wpOpsIn, ho]
  cases g with
  | false =>
    refine Prom.imp (hrest (putT N tm o.dst undV) ds) (fun B hB => ⟨putT_sc hB.1 (show undV.sc B from trivial) _, hB.2⟩) fun B ρ w K hB hX fo Q hQ => ?_
    rw [hstep, hw ρ]
    simp only [Bool.false_eq_true, if_false]
    have := hX fo Q fun r ρ' w' hk => hQ r ρ' w' hk.2
    rw [← put_den] at this
    exact ⟨fun f _ => Fe_fn fo f, this⟩
  | true =>
    refine Prom.bind (X3 := fun r ρ w K => ∀ v, r = rv v → ∀ fo (Q : Exit → Act → World → Prop), (∀ r ρ' w', K r ρ' w' → Q (exOf r.x) (actN ρ' N r.s (mks ρ' r.ds)) w') → wpOpsIn (Fe fo) 0 P ops Q rest (actN ρ N (putT N tm o.dst v) (mks ρ ds)) w)
      (s2 := fun r B => (scS B tm ∧ ∀ m ∈ ds, B m) ∧ scR B r) (s1 := fun B => scS B tm ∧ ∀ m ∈ ds, B m) (Prom.scs (hone o tm) fun B h => h.1) (fun r => ?_) (fun r B B' h1 h2 h3 => ⟨⟨Nd.All.mono (fun v hv => V.sc_mono h1 v hv) h2.1, fun m hm => h1 m (h2.2 m hm)⟩, h3⟩) fun B ρ w K hB hX fo Q hQ => ?_
    · unfold kv
      split
      · rename_i v hv
        refine Prom.imp (hrest (putT N tm o.dst v) ds) (fun B hB => ⟨putT_sc hB.1.1 (by have := hB.2.1; rw [hv] at this; exact this.1) _, hB.1.2⟩) fun B ρ w K hB hX v' hr fo Q hQ => ?_
        rw [hr] at hv
        cases hv
        exact hX fo Q fun r ρ' w' hk => hQ r ρ' w' hk.2
      · exact Prom.fail
    · rw [hstep, hw ρ]
      simp only [if_true]
      refine hX fo (mks ρ ds) (wpOpsIn (Fe fo) 0 P ops Q rest) Q fun r ρ' w' v hr hk => ?_
      rw [put_den, ← mks_eq (B := B) hk.1 hB.2]
      exact hk.2 v hr fo Q hQ
theorem entry_run {f : FuncId} {fn : Func} {c : Code} (hE : Entr P kof) (h1 : P.funcs[f]? = some fn) (h2 : fn.body = some c) (args cap : Array Value) (w : World) : (invoke (.fn (.func f) cap) args).run P w = .ok (.enter f (args ++ cap)) w := by
  have h3 : fn.name ≠ "runtime.NumGoroutine" := by simpa using hE.name f fn h1
  simp [invoke, callFunc, h1, h3, h2, mark]
theorem args_den (ρ : En) (df : List Deferred) (first cap : List V) (N : Nat) (tm : Nd V) (l : Array Operand) : (denL ρ (first ++ l.toList.map (evx N tm) ++ cap)).toArray = (denL ρ first).toArray ++ l.map (actN ρ N tm df).eval ++ (denL ρ cap).toArray := by
  rw [denL_app, denL_app]
  apply Array.toList_inj.1
  simp only [Array.toList_append, Array.toList_map]
  congr 2
  rw [denL_map, List.map_map]
  exact List.map_congr_left fun x _ => (evx_den N tm ρ df x).symm
theorem one_call (ih : AllOK ar P S) {N : Nat} {o : Oper} {c : Call} {f : Operand} {g : FuncId} {first cap : List V} {tm : Nd V} (hE : Entr P kof) (hop : o.op = .call c) (hc : c.callee = .value f) (hf : evx N tm f = .fn (.func g) first cap) :
    OneOK ar P N o tm (S.call g (first ++ c.args.toList.map (evx N tm) ++ cap)) := by
  intro ch M obs lg r M' ch' obs' lg' hr ho B ρ w0 D w K hB hA hM hsc hK fo df next Q hQ
  obtain ⟨fn, b, h1, h2⟩ := ih.entry _ _ _ _ _ _ _ _ _ _ _ hr
  have hsc' : scL B (first ++ c.args.toList.map (evx N tm) ++ cap) := by
    have hfs := evx_sc (N := N) hsc f
    rw [hf] at hfs
    exact scL_app (scL_app hfs.1 (scL_map hsc _)) hfs.2
  have hrun : (execOp (actN ρ N tm df).eval o).run P w = .ok (.enter g (denL ρ (first ++ c.args.toList.map (evx N tm) ++ cap)).toArray) w := by
    have hfv : (actN ρ N tm df).eval f = .func (.func g) (denL ρ first).toArray (denL ρ cap).toArray := by rw [evx_den, hf]; rfl
    unfold execOp
    rw [hop]
    simp only [resolve, hc, hfv, Deferred.ofValue]
    simp only [Sem.run_bind, Sem.run_pure, Result.andThen_ok]
    rw [entry_run hE h1 h2, args_den ρ df]
  refine ⟨fun f _ => Fe_fn fo f, ?_⟩
  rw [Oper.semAt_eq _ _ _ (fun c' e => by rw [hop] at e; cases e), hrun]
  refine ⟨Fe_room fo, Fe_calls ?_⟩
  refine ih.call g _ ch M obs lg r M' ch' obs' lg' hr ho B ρ w0 D w (fun r' ρ' w' => (∀ n, B n → ρ' n = ρ n) ∧ K r' ρ' w') hB hA hM hsc' (fun ρ' w' a b c d => ⟨fun n hn => a n (hB n hn), hK ρ' w' a b c d⟩) _ fun r' ρ' w' v hv hk => ?_
  have hn := hQ r' ρ' w' v hv hk.2
  rw [act_eq (B := B) hk.1 hsc] at hn
  exact hn
end
end Go.Proofs.YthdnonoheochhaaGreatDoor
namespace Go.Proofs.YthdnonoheochhaaGreatDoor
open Go.RowKit
set_option linter.unusedVariables false
section
variable {A : Type} {ar : A → List Value → Value → Res} {P : Program} {kof : TypeId → Option (Nat × Bool)} {tbl : FuncId → Option (List V → T A)} {S : SR A}
theorem get_ok {n : Nat} {k : Pl A → T A} {ch M obs lg r M' ch' obs' lg'} (h : (T.get n k).run ch M obs lg = .ok r M' ch' obs' lg') : (k (Mget M n)).run ch M obs (lg.rd n) = .ok r M' ch' obs' lg' := h
theorem put_ok {n : Nat} {p : Pl A} {k : T A} {ch M obs lg r M' ch' obs' lg'} (h : (T.put n p k).run ch M obs lg = .ok r M' ch' obs' lg') : n < M.length ∧ k.run ch (M.set n p) obs (lg.wr n) = .ok r M' ch' obs' lg' := by
  simp only [T.run] at h
  split at h
  · rename_i hlt
    exact ⟨by simpa using hlt, h⟩
  · cases h
theorem At.loop {w0 w : World} {D : Nat → Prop} {ρ : En} {M : List (Pl A)} (h : At ar w0 D w ρ M) {n : Nat} {st pe N tm ps} {assign body : Code} (hn : Mget M n = .loop st pe N tm ps assign body) :
    ∃ fn df, w.heap[blkOf (ρ n)]? = some (.loop { state := st, pending := pe, fn := fn, tmps := (denL ρ (lV N tm)).toArray, params := ps, assign := assign, body := body, defers := df }) := by
  obtain ⟨F, h1, _⟩ := OwnN.step h (At.lt' hn (by intro e; cases e))
  rw [hn] at h1
  exact h1.2
theorem upd_putObj (w : World) (b : Nat) (o : Obj) {F : Nat → Prop} (hF : F b) : Upd F w (w.putObj b o) :=
  ⟨rfl, rfl, rfl, by simp, fun k _ hk => World.putObj_heap_other (fun e => hk (e ▸ hF))⟩
theorem At.loopSet {w0 w : World} {D : Nat → Prop} {ρ : En} {M : List (Pl A)} (h : At ar w0 D w ρ M) {n : Nat} {st pe N tm ps} {assign body : Code} (hn : Mget M n = .loop st pe N tm ps assign body) {fn df}
    (hl : w.heap[blkOf (ρ n)]? = some (.loop { state := st, pending := pe, fn := fn, tmps := (denL ρ (lV N tm)).toArray, params := ps, assign := assign, body := body, defers := df })) (st' : LoopState) (pe' : Option Code) :
    At ar w0 D (w.putObj (blkOf (ρ n)) (.loop { state := st', pending := pe', fn := fn, tmps := (denL ρ (lV N tm)).toArray, params := ps, assign := assign, body := body, defers := df })) ρ (M.set n (.loop st' pe' N tm ps assign body)) := by
  obtain ⟨F, h1, h2, h3⟩ := h.chg (At.lt' hn (by intro e; cases e))
  rw [hn] at h1
  refine h3 (p := .loop st' pe' N tm ps assign body) (F' := F) ⟨h1.1, fn, df, World.putObj_heap_same (Array.getElem?_eq_some_iff.1 hl).1⟩ (fun b hb => .inl hb) (upd_putObj _ _ _ ((h1.1 _).2 rfl))
theorem At.loopEnd {w0 w : World} {D : Nat → Prop} {ρ : En} {M : List (Pl A)} (h : At ar w0 D w ρ M) {n : Nat} {st pe N tm ps} {assign body : Code} (hn : Mget M n = .loop st pe N tm ps assign body) (o : Obj) :
    At ar w0 D (w.putObj (blkOf (ρ n)) o) ρ (M.set n .none) := by
  obtain ⟨F, h1, h2, h3⟩ := h.chg (At.lt' hn (by intro e; cases e))
  rw [hn] at h1
  exact h3 (p := .none) (F' := fun _ => False) (fun b hb => hb) (fun b hb => hb.elim) (upd_putObj _ _ _ ((h1.1 _).2 rfl))
theorem At.markEnd {w0 w : World} {D : Nat → Prop} {ρ : En} {M : List (Pl A)} (h : At ar w0 D w ρ M) {n : Nat} (hn : Mget M n = .mark) :
    w.heap[blkOf (ρ n)]? = some (.deferred (some [])) ∧ At ar w0 D (w.putObj (blkOf (ρ n)) (.deferred none)) ρ (M.set n .none) := by
  obtain ⟨F, h1, h2, h3⟩ := h.chg (At.lt' hn (by intro e; cases e))
  rw [hn] at h1
  exact ⟨h1.2, h3 (p := .none) (F' := fun _ => False) (fun b hb => hb) (fun b hb => hb.elim) (upd_putObj _ _ _ ((h1.1 _).2 rfl))⟩
theorem scM_none {B : Nat → Prop} {M : List (Pl A)} (hM : scM B M) (n : Nat) : scM B (M.set n .none) := scM_set hM trivial
theorem foldT_den (ρ : En) (N : Nat) : ∀ (ps : List Tmp) (vs : List V) (tm : Nd V), (denL ρ (lV N (foldT N ps vs tm))).toArray = ((ps.zip (denL ρ vs)).foldl (fun t (p, v) => t.setIfInBounds p v) (denL ρ (lV N tm)).toArray)
  | [], vs, tm => by simp [foldT]
  | p :: ps, [], tm => by simp [foldT, denL]
  | p :: ps, v :: vs, tm => by
    simp only [foldT, denL, List.zip_cons_cons, List.foldl_cons]
    rw [foldT_den ρ N ps vs, setS_l, denL_set]
    simp
theorem foldT_sc {B : Nat → Prop} {N : Nat} : ∀ (ps : List Tmp) {vs : List V} {tm : Nd V}, scL B vs → scS B tm → scS B (foldT N ps vs tm)
  | [], vs, tm, _, h => by cases vs <;> exact h
  | p :: ps, [], tm, _, h => h
  | p :: ps, v :: vs, tm, h1, h => foldT_sc ps h1.2 (setS_sc h h1.1 p)
theorem yEnd_run {n : Nat} {x : Ex} {ch M obs lg r M' ch' obs' lg'} (hr : (yEnd n x : T A).run ch M obs lg = .ok r M' ch' obs' lg') : ∃ pe N tm ps assign body, Mget M n = .loop .busy pe N tm ps assign body ∧
    M' = M.set n (.loop (match jumpOf x with | none => .ready | some _ => .done) (jumpOf x) N tm ps assign body) ∧ obs' = obs ∧ r = rv (.bool false (jumpOf x).isNone) := by
  have h := get_ok hr
  split at h
  · rename_i pe N tm ps assign body hm
    obtain ⟨hlt, h2⟩ := put_ok h
    cases h2
    exact ⟨pe, N, tm, ps, assign, body, hm, rfl, rfl, rfl⟩
  · cases h
theorem round_end {l : Nat} {R : Ending → World → Prop} (x : Ex) {a : Act} {w : World} (h : ∃ v w', (Instr.endRound l (jumpOf x)).run P w = .ok v w' ∧ R (.returned v) w') : roundPost P l R (exOf x) a w := by
  cases x <;> exact h
theorem isNone_state (j : Option Code) : (match j with | none => LoopState.ready | some _ => LoopState.done) = if j.isNone then LoopState.ready else LoopState.done := by cases j <;> rfl
theorem one_yield (ih : AllOK ar P S) {N : Nat} {o : Oper} {c : Call} {f : Operand} {L : Nat} {tm : Nd V} (hop : o.op = .call c) (hc : c.callee = .value f) (hf : evx N tm f = .yl L) :
    OneOK ar P N o tm (yieldS S L (c.args.toList.map (evx N tm))) := by
  intro ch M obs lg r M' ch' obs' lg' hr ho B ρ w0 D w K hB hA hM hsc hK fo df next Q hQ
  have hr := get_ok hr
  split at hr
  case h_2 => cases hr
  rename_i pe N1 s1 ps assign body hm
  split at hr
  case h_2 => cases hr
  rename_i hlen
  have hlen := Nat.eq_of_beq_eq_true hlen
  obtain ⟨r1, M1, ch1, obs1, lg1, e1, e2⟩ := bind_ok hr
  unfold yMid at e2
  split at e2
  case h_2 => cases e2
  rename_i hx1 hd1
  have e2 := get_ok e2
  split at e2
  case h_2 => cases e2
  rename_i pe2 N2 tm2 ps2 assign2 body2 hm2
  obtain ⟨hlt2, e2⟩ := put_ok e2
  obtain ⟨r3, M3, ch3, obs3, lg3, e3, e4⟩ := bind_ok e2
  obtain ⟨pe4, N4, tm4, ps4, assign4, body4, hm4, hM4, hobs4, hr4⟩ := yEnd_run e4
  have l1 := run_len _ e1
  have l3 := run_len _ e3
  rw [List.length_set] at l3
  have hl4 : M'.length = M3.length := by rw [hM4, List.length_set]
  have ho3 : okObs obs3 := hobs4 ▸ ho
  have ho1 : okObs obs1 := run_obs _ e3 ho3
  have hbN : ∀ k, B k → k < M.length ∨ M1.length ≤ k := fun k hk => (hB k hk).imp id fun h => by omega
  obtain ⟨fn, dfr, hl⟩ := hA.loop hm
  have hsM := hM L
  rw [hm] at hsM
  have hNsc : B L := by
    have := evx_sc (N := N) hsc f
    rwa [hf] at this
  refine ⟨fun f _ => Fe_fn fo f, ?_⟩
  rw [Oper.semAt_eq _ _ _ (fun c' e => by rw [hop] at e; cases e)]
  have hargs : c.args.map (actN ρ N tm df).eval = (denL ρ (c.args.toList.map (evx N tm))).toArray := by
    apply Array.toList_inj.1
    simp only [Array.toList_map]
    rw [denL_map, List.map_map]
    exact List.map_congr_left fun x _ => evx_den N tm ρ df x
  have hfv : (actN ρ N tm df).eval f = .func (.yield (blkOf (ρ L))) #[] #[] := by rw [evx_den, hf]; rfl
  have hsz : (denL ρ (c.args.toList.map (evx N tm))).toArray.size = ps.size := by simp [denL_len] at hlen ⊢; exact hlen
  have hrun : (execOp (actN ρ N tm df).eval o).run P w = .ok (.round (blkOf (ρ L)) fn (denL ρ (lV N1 (foldT N1 ps.toList (c.args.toList.map (evx N tm)) s1))).toArray assign body) w := by
    unfold execOp
    rw [hop]
    simp only [resolve, hc, hfv, Deferred.ofValue]
    simp only [Sem.run_bind, Sem.run_pure, Result.andThen_ok, invoke]
    rw [hargs]
    simp only [Array.empty_append]
    rw [run_yield hl hsz, foldT_den]
    congr 2
    rw [← Array.foldl_toList]
    simp [Array.toList_zip]
  rw [hrun]
  refine ⟨Fe_room fo, Fe_round (roundIn_of_wpIn trivial ?_)⟩
  -- the assignment
  refine (ih.code N1 true assign _ []) ch M obs _ r1 M1 ch1 obs1 lg1 e1 ho1 B ρ w0 D w
    (fun r' ρ' w' => r' = r1 ∧ Ext M.length M1.length ρ ρ' ∧ At ar w0 D w' ρ' M1 ∧ scR (wid B M.length M1.length) r1 ∧ scM (wid B M.length M1.length) M1) hbN hA hM ⟨foldT_sc _ (scL_map hsc _) hsM, fun m hm => by cases hm⟩
    (fun ρ' w' a b c d => ⟨rfl, a, b, c, d⟩) (some (blkOf (ρ L))) (fun h => by cases h) _ ?_
  rintro r' ρ1 w1 ⟨rfl, hE1, hA1, hs1, hM1⟩
  obtain ⟨x1, ll1, tmA, d1⟩ := r'
  simp only at hx1 hd1 e1 e2 e3
  subst hx1 hd1
  have hρN : blkOf (ρ1 L) = blkOf (ρ L) := by rw [hE1 L (hbN L hNsc)]
  obtain ⟨fn2, df2, hl2⟩ := hA1.loop hm2
  rw [hρN] at hl2
  refine ⟨_, run_beginRound hl2 rfl, ?_⟩
  have hA2 := hA1.loopSet hm2 (hρN ▸ hl2) .busy pe2
  rw [hρN] at hA2
  have hM2 : scM (wid B M.length M1.length) (M1.set L (.loop .busy pe2 N2 tm2 ps2 assign2 body2)) := scM_set hM1 (by have := hM1 L; rw [hm2] at this; exact this)
  refine (ih.code N1 true body tmA []) ch1 _ obs1 _ r3 M3 ch3 obs3 lg3 e3 ho3 (wid B M.length M1.length) ρ1 w0 D _
    (fun r' ρ' w' => r' = r3 ∧ Ext M1.length M3.length ρ1 ρ' ∧ At ar w0 D w' ρ' M3 ∧ scM (wid (wid B M.length M1.length) M1.length M3.length) M3) ?_ hA2 hM2 ⟨hs1.2.1, fun m hm => by cases hm⟩
    (fun ρ' w' a b c d => ?_) (some (blkOf (ρ L))) (fun h => by cases h) _ ?_
  · intro k hk
    rw [List.length_set]
    exact (wid_lt hB l1 k hk).imp id fun h => by omega
  · rw [List.length_set] at a d
    exact ⟨rfl, a, b, d⟩
  rintro r' ρ3 w3 ⟨rfl, hE3, hA3, hM3⟩
  have hρN3 : blkOf (ρ3 L) = blkOf (ρ L) := by
    have := hE3 L (by
      have := wid_lt hB l1 L (.inl hNsc)
      rcases this with h | h
      · exact .inl h
      · exact .inr (by omega))
    rw [this, hρN]
  obtain ⟨fn4, df4, hl4'⟩ := hA3.loop hm4
  rw [hρN3] at hl4'
  refine round_end r'.x ⟨_, _, run_endRound (jumpOf r'.x) hl4', ?_⟩
  have hA4 := hA3.loopSet hm4 (hρN3 ▸ hl4') (match jumpOf r'.x with | none => .ready | some _ => .done) (jumpOf r'.x)
  rw [hρN3, ← hM4] at hA4
  have hE : Ext M.length M'.length ρ ρ3 := by rw [hl4]; exact hE1.trans hE3 l1 l3
  have hk := hK ρ3 _ hE hA4 (by rw [hr4]; exact ⟨⟨trivial, trivial⟩, trivial, fun m hm => by cases hm⟩) (by
    rw [hM4, List.length_set]
    refine scM_set (fun i => Pl.sc_mono (wid_wid l1 l3) _ (hM3 i)) ?_
    have := hM3 L
    rw [hm4] at this
    exact Nd.All.mono (fun v hv => V.sc_mono (wid_wid l1 l3) v hv) this)
  have hn := hQ r ρ3 _ _ hr4 hk
  rw [act_eq (B := B) (fun k hk => hE k (hB k hk)) hsc] at hn
  rw [isNone_state] at hn
  exact hn
theorem code_range (ih : AllOK ar P S) (hE : Entr P kof) {N : Nat} {g : Operand} {ps : Array Tmp} {assign body : Code} {tm : Nd V} {ds : List Nat} {f : FuncId} {first cap : List V} (hg : evx N tm g = .fn (.func f) first cap) :
    CodeOK ar P N false (.rangeFunc g ps assign body) tm ds (.new .mark fun m => .new (.loop .ready none N tm ps assign body) fun L =>
          (S.call f (first ++ [.yl L] ++ cap)).bind (kv fun _ => .get L (rfEnd (fun ds c => S.code N false c tm ds) L m tm ds))) := by
  intro ch M obs lg r M' ch' obs' lg' hr ho B ρ w0 D w K hB hA hM hsc hK fo hfo Q hQ
  obtain ⟨hsc, hds⟩ := hsc
  obtain rfl := hfo rfl
  simp only [T.run] at hr
  obtain ⟨r1, M1, ch1, obs1, lg1, e1, e2⟩ := bind_ok hr
  obtain ⟨fnE, bE, hE1, hE2⟩ := ih.entry _ _ _ _ _ _ _ _ _ _ _ e1
  have l1 := run_len _ e1
  obtain ⟨v0, hv0, e2⟩ := kv_ok e2
  have l2 := run_len _ e2
  have e2k := e2
  have e2 := get_ok e2
  have hL1 : (M ++ [Pl.mark (A := A)]).length = M.length + 1 := by simp
  have hL2 : (M ++ [Pl.mark (A := A)] ++ [Pl.loop .ready none N tm ps assign body]).length = M.length + 2 := by simp
  rw [hL2] at l1
  rw [hL1] at e1 e2
  -- the mark and the record
  have hB1 : ∀ k, B k → k < M.length ∨ M.length + 1 ≤ k := fun k hk => (hB k hk).imp id fun h => by omega
  refine wpIn_rangeFunc fun fn _ => ?_
  obtain ⟨ρ1, hρ1⟩ : ∃ ρ1, ρ1 = upE ρ M.length (.pointer (some ⟨w.heap.size, 0, none⟩)) := ⟨_, rfl⟩
  obtain ⟨ρ2, hρ2⟩ : ∃ ρ2, ρ2 = upE ρ1 (M.length + 1) (.pointer (some ⟨w.heap.size + 1, 0, none⟩)) := ⟨_, rfl⟩
  have ha1 : ∀ k, k ≠ M.length → ρ1 k = ρ k := fun k hk => by rw [hρ1]; exact if_neg hk
  have ha2 : ∀ k, k ≠ M.length + 1 → ρ2 k = ρ1 k := fun k hk => by rw [hρ2]; exact if_neg hk
  have hb1 : ρ2 M.length = .pointer (some ⟨w.heap.size, 0, none⟩) := by rw [ha2 _ (by omega), hρ1]; exact if_pos rfl
  have hb2 : ρ2 (M.length + 1) = .pointer (some ⟨w.heap.size + 1, 0, none⟩) := by rw [hρ2]; exact if_pos rfl
  have ha : ∀ k, B k → ρ2 k = ρ k := fun k hk => by
    have := hB k hk
    rw [ha2 k (by omega), ha1 k (by omega)]
  have hA1 : At ar w0 D (w.alloc (.deferred (some []))) ρ1 (M ++ [.mark]) := by
    rw [hρ1]
    refine hA.mk hB1 hM (F := fun b => b = w.heap.size) ?_ (fun b hb => by rw [hb]; exact Nat.le_refl _) (below_one w _)
    simp only [denP, upE, if_pos, blkOf]
    exact ⟨fun _ => Iff.rfl, World.alloc_heap_new w _⟩
  have hM1 := scM_new (p := Pl.mark) hM trivial
  rw [hL1] at hM1
  have hB2 : ∀ k, wid B M.length (M.length + 1) k → k < M.length + 1 ∨ M.length + 1 + 1 ≤ k := fun k hk => by
    rcases hk with hk | hk
    · have := hB k hk; omega
    · exact .inl hk.2
  obtain ⟨rec, hrec⟩ : ∃ rec : LoopState → Option Code → Nat → Loop, rec = fun st pe df => { state := st, pending := pe, fn := fn, tmps := (denL ρ (lV N tm)).toArray, params := ps, assign, body, defers := df } := ⟨_, rfl⟩
  obtain ⟨w2, hw2⟩ : ∃ w2, w2 = (w.alloc (.deferred (some []))).alloc (.loop (rec .ready none w.heap.size)) := ⟨_, rfl⟩
  have hA2 : At ar w0 D w2 ρ2 (M ++ [.mark] ++ [.loop .ready none N tm ps assign body]) := by
    have := hA1.mk (w' := w2) (v := .pointer (some ⟨w.heap.size + 1, 0, none⟩)) (p := .loop .ready none N tm ps assign body) (B := wid B M.length (M.length + 1)) (by rw [hL1]; exact hB2) hM1 (F := fun b => b = w.heap.size + 1) ?_ (fun b hb => by rw [hb]; simp) (by rw [hw2]; exact below_one _ _)
    · rw [hL1, ← hρ2] at this; exact this
    · rw [hL1, ← hρ2]
      simp only [denP, hb2, blkOf]
      refine ⟨fun _ => Iff.rfl, fn, w.heap.size, ?_⟩
      have h := World.alloc_heap_new (w.alloc (.deferred (some []))) (.loop (rec .ready none w.heap.size))
      rw [World.size_alloc, ← hw2] at h
      rw [h, denL_eq (A := B) ha _ (scS_l hsc), hrec]
  have hM2 := scM_new (p := Pl.loop .ready none N tm ps assign body) hM1 (Nd.All.mono (fun v hv => V.sc_mono wid_l v hv) hsc)
  rw [hL2, hL1] at hM2
  have hM2' : scM (wid B M.length (M.length + 2)) (M ++ [.mark] ++ [.loop .ready none N tm ps assign body]) := fun i => Pl.sc_mono (wid_wid (by omega) (by omega)) _ (hM2 i)
  have hargs : scL (wid B M.length (M.length + 2)) (first ++ [.yl (M.length + 1)] ++ cap) := by
    have hfs := evx_sc (N := N) hsc g
    rw [hg] at hfs
    exact scL_app (scL_app (scL_mono wid_l _ hfs.1) ⟨.inr (by omega), trivial⟩) (scL_mono wid_l _ hfs.2)
  have hB3 : ∀ k, wid B M.length (M.length + 2) k → k < M.length + 2 ∨ M1.length ≤ k := fun k hk => (wid_lt hB (by omega) k hk).imp id fun h => by omega
  have hfs := evx_sc (N := N) hsc g
  rw [hg] at hfs
  have hfv : (actN ρ N tm (mks ρ ds)).eval g = .func (.func f) (denL ρ2 first).toArray (denL ρ2 cap).toArray := by
    rw [evx_den, hg, denL_eq (A := B) ha first hfs.1, denL_eq (A := B) ha cap hfs.2]; rfl
  refine ⟨w.heap.size + 1, [{ target := .collected w.heap.size, args := #[] }], w2, { target := .fn (.func f) (denL ρ2 cap).toArray, args := (denL ρ2 first).toArray ++ #[.func (.yield (w.heap.size + 1)) #[] #[]] }, w2, f,
    (denL ρ2 first).toArray ++ #[.func (.yield (w.heap.size + 1)) #[] #[]] ++ (denL ρ2 cap).toArray, w2, ?_, ?_, fun f' _ => trivial, ?_, Fe_room none, Fe_calls (o := none) ?_⟩
  · rw [hw2, hrec]; exact run_enterLoop_outer _ _ _ _ _
  · simp only [resolve, hfv, Deferred.ofValue]
    simp [Act.eval]
  · exact entry_run hE hE1 hE2 _ _ _
  have hadn : (denL ρ2 first).toArray ++ #[.func (.yield (w.heap.size + 1)) #[] #[]] ++ (denL ρ2 cap).toArray = (denL ρ2 (first ++ [.yl (M.length + 1)] ++ cap)).toArray := by
    rw [denL_app, denL_app]
    apply Array.toList_inj.1
    simp [denL, V.den, hb2, blkOf]
  rw [hadn]
  refine (ih.call f _) ch _ obs _ r1 M1 ch1 obs1 lg1 e1 (run_obs _ e2k ho) (wid B M.length (M.length + 2)) ρ2 w0 D w2
    (fun r' ρ' w' => Ext (M.length + 2) M1.length ρ2 ρ' ∧ At ar w0 D w' ρ' M1 ∧ scM (wid (wid B M.length (M.length + 2)) (M.length + 2) M1.length) M1) (by rw [hL2]; exact hB3) hA2 hM2' hargs
    (fun ρ' w' a b c d => by rw [hL2] at a d; exact ⟨a, b, d⟩) _ ?_
  rintro r' ρ3 w3 v hv ⟨hE3, hA3, hM3⟩
  -- behind the iterator
  unfold rfEnd at e2
  split at e2
  case h_2 => cases e2
  rename_i st pe N4 tm4 ps4 assign4 body4 hm4
  have hst : st ≠ .busy := fun e => by subst e; cases e2
  obtain ⟨fn4, df4, hl4⟩ := hA3.loop hm4
  have hρ3 : blkOf (ρ3 (M.length + 1)) = w.heap.size + 1 := by rw [hE3 _ (.inl (by omega)), hb2]; rfl
  have hρm : blkOf (ρ3 M.length) = w.heap.size := by rw [hE3 _ (.inl (by omega)), hb1]; rfl
  rw [hρ3] at hl4
  refine ⟨pe, _, run_endLoop hl4 hst, ?_⟩
  have hA4 := hA3.loopEnd hm4 (.loop { state := .exhausted, pending := pe, fn := fn4, tmps := (denL ρ3 (lV N4 tm4)).toArray, params := ps4, assign := assign4, body := body4, defers := df4 })
  rw [hρ3] at hA4
  have hE13 : Ext M.length M1.length ρ ρ3 := fun k hk => by
    rw [hE3 k (hk.imp (fun h => by omega) id)]
    rw [ha2 k (by omega), ha1 k (by omega)]
  have hM4 : scM (wid B M.length M1.length) (M1.set (M.length + 1) .none) := scM_none (fun i => Pl.sc_mono (wid_wid (by omega) l1) _ (hM3 i)) _
  have hBk : ∀ k, B k → ρ3 k = ρ k := fun k hk => hE13 k ((hB k hk).imp id fun h => by omega)
  have htm : denL ρ3 (lV N tm) = denL ρ (lV N tm) := denL_eq (A := B) hBk _ (scS_l hsc)
  have hmk : mks ρ3 (M.length :: ds) = [{ target := .collected w.heap.size, args := #[] }] ++ mks ρ ds := by
    rw [← mks_eq (B := B) hBk hds]
    show ({ target := .collected (blkOf (ρ3 M.length)), args := #[] } : Deferred) :: mks ρ3 ds = { target := .collected w.heap.size, args := #[] } :: mks ρ3 ds
    rw [hρm]
  have hsm : ∀ m ∈ M.length :: ds, wid B M.length M1.length m := fun m hm => by
    rcases List.mem_cons.1 hm with h | h
    · subst h; exact .inr (by omega)
    · exact .inl (hds m h)
  have e5 : (T.put (M.length + 1) .none (rfJ (fun ds c => S.code N false c tm ds) tm (M.length :: ds) pe) : T A).run ch1 M1 obs1 (lg1.rd (M.length + 1)) = .ok r M' ch' obs' lg' := by
    cases st <;> first | exact (hst rfl).elim | exact e2
  obtain ⟨hlt, e6⟩ := put_ok e5
  clear e2 e5
  cases pe with
  | none =>
    cases e6
    rw [List.length_set] at hK
    have := hQ _ ρ3 _ (hK ρ3 _ hE13 hA4 ⟨trivial, Nd.All.mono (fun v hv => V.sc_mono wid_l v hv) hsc, hsm⟩ hM4)
    simp only [actN, htm, hmk] at this
    exact this
  | some c =>
    have l6 := run_len _ e6
    rw [List.length_set] at l6
    have hgo := (ih.code N false c tm (M.length :: ds)) ch1 _ obs1 _ r M' ch' obs' lg' e6 ho (wid B M.length M1.length) ρ3 w0 D _ K (fun k hk => by rw [List.length_set]; exact wid_lt hB (by omega) k hk) hA4 hM4 ⟨Nd.All.mono (fun v hv => V.sc_mono wid_l v hv) hsc, hsm⟩
      (fun ρ' w' a b c d => hK ρ' w' (hE13.trans (by rw [List.length_set] at a; exact a) (by omega) l6) b (by rw [List.length_set] at c; exact scR_mono (wid_wid (by omega) l6) c) (fun i => Pl.sc_mono (wid_wid (by omega) l6) _ (by rw [List.length_set] at d; exact d i))) none (fun _ => rfl) Q hQ
    simp only [actN, htm, hmk] at hgo
    exact hgo
theorem evLoad_run {t : TypeId} {a : V} {ch M obs lg r M' ch' obs' lg'} (h : (evLoad P t a : T A).run ch M obs lg = .ok r M' ch' obs' lg') : M' = M ∧ obs' = obs ∧ ∃ v, r = rv v ∧
    ∀ {B : Nat → Prop} {ρ : En} {w0 : World} {D : Nat → Prop} {w : World}, At ar w0 D w ρ M → scM B M → v.sc B ∧ ∃ p, a.den ρ = .pointer (some p) ∧ (loadVar t p).run P w = .ok (v.den ρ) w := by
  unfold evLoad at h
  split at h
  · rename_i n o
    replace h := get_ok h
    split at h
    · rename_i cs u hm
      split at h
      · rename_i v hv
        cases h
        refine ⟨rfl, rfl, v, rfl, fun {B ρ w0 D w} hA hM => ?_⟩
        have hsc := hM n
        rw [hm] at hsc
        refine ⟨ldV_sc hv hsc, _, rfl, ?_⟩
        have h := run_ld (P := P) (w := w) (ρ := ρ) (b := blkOf (ρ n)) (k := 0) hv (fun j u _ hu => by rw [Nat.zero_add]; exact blk_get (hA.blk hm) hu)
        rwa [Nat.zero_add] at h
      · cases h
    · cases h
  · rename_i n sz i o
    replace h := get_ok h
    split at h
    · rename_i t' s xs hm
      split at h
      · rename_i hsz
        have hsz' : s = sz := by simpa using hsz
        subst hsz'
        split at h
        · rename_i x hx
          split at h
          · rename_i v hv
            cases h
            refine ⟨rfl, rfl, v, rfl, fun {B ρ w0 D w} hA hM => ?_⟩
            have hsc := hM n
            rw [hm] at hsc
            refine ⟨ldV_sc hv (scL_iff.2 fun u hu => scL_iff.1 hsc u (List.mem_flatten.2 ⟨x, List.mem_of_getElem? hx, hu⟩)), _, rfl, ?_⟩
            obtain ⟨hl, hrow⟩ := hA.row hm
            exact run_ld (P := P) (w := w) (ρ := ρ) (b := blkOf (ρ n)) (k := i * s) hv (fun j u _ hu => row_get hl hrow hx hu)
          · cases h
        · cases h
      · cases h
    · cases h
  · rename_i g o
    replace h := get_ok h
    split at h
    · rename_i h' cs u hm
      split at h
      · rename_i hg
        have hg' : h' = g := Nat.eq_of_beq_eq_true hg
        subst hg'
        split at h
        · rename_i v hv
          cases h
          refine ⟨rfl, rfl, v, rfl, fun {B ρ w0 D w} hA hM => ?_⟩
          have hsc := hM h'
          rw [hm] at hsc
          refine ⟨ldV_sc hv hsc, _, rfl, ?_⟩
          have h := run_ld (P := P) (w := w) (ρ := ρ) (b := h') (k := 0) hv (fun j u _ hu => by rw [Nat.zero_add]; exact hA.glb hm hu)
          rwa [Nat.zero_add] at h
        · cases h
      · cases h
    · cases h
  · cases h
theorem resT_run {N : Nat} {tm : Nd V} : ∀ {rs : List ResultVar} {acc : List V} {ch : List Bool} {M : List (Pl A)} {obs : Obs} {lg : Lg} {r M' ch' obs' lg'}, (resT P N tm rs acc : T A).run ch M obs lg = .ok r M' ch' obs' lg' →
    M' = M ∧ obs' = obs ∧ ∃ l : List V, r = rv (packV (l.reverse ++ acc)) ∧ ∀ {B : Nat → Prop} {ρ : En} {w0 : World} {D : Nat → Prop} {w : World}, At ar w0 D w ρ M → scM B M → scS B tm → ((rs.mapM fun
      | .tmp t => pure ((denL ρ (lV N tm)).toArray.getD t undef)
      | .cell a t => do loadVar t (← asAddr ((denL ρ (lV N tm)).toArray.getD a undef)) : Sem (List Value)).run P w = .ok (denL ρ l) w) ∧ scL B l
  | [], acc, ch, M, obs, lg, r, M', ch', obs', lg', h => by
    cases h
    exact ⟨rfl, rfl, [], rfl, fun _ _ _ => ⟨rfl, trivial⟩⟩
  | .tmp t :: rs, acc, ch, M, obs, lg, r, M', ch', obs', lg', h => by
    obtain ⟨h1, h2, l, h4, h3⟩ := resT_run (rs := rs) h
    refine ⟨h1, h2, slot N tm t :: l, by rw [h4]; simp, fun {B ρ w0 D w} hA hM hs => ?_⟩
    obtain ⟨h5, h6⟩ := h3 hA hM hs
    refine ⟨?_, ⟨slot_sc hs t, h6⟩⟩
    have e := slot_den N tm ρ t
    simp only [List.mapM_cons, Sem.run_bind, Sem.run_pure, Result.andThen_ok, h5, e]
    rfl
  | .cell a t :: rs, acc, ch, M, obs, lg, r, M', ch', obs', lg', h => by
    obtain ⟨r1, M1, ch1, obs1, lg1, e1, e2⟩ := bind_ok h
    obtain ⟨u, hu, e2⟩ := kv_ok e2
    obtain ⟨rfl, rfl, v, rfl, hv⟩ := evLoad_run (ar := ar) e1
    cases hu
    obtain ⟨h1, h2, l, h4, h3⟩ := resT_run (rs := rs) e2
    refine ⟨h1, h2, u :: l, by rw [h4]; simp, fun {B ρ w0 D w} hA hM hs => ?_⟩
    obtain ⟨h5, h6⟩ := h3 hA hM hs
    obtain ⟨h7, p, h8, h9⟩ := hv hA hM
    refine ⟨?_, ⟨h7, h6⟩⟩
    have e := (slot_den N tm ρ a).trans h8
    have ea : asAddr (Value.pointer (some p)) = pure p := rfl
    simp only [List.mapM_cons, Sem.run_bind, Sem.run_pure, Result.andThen_ok, h5, e, ea, h9]
    rfl
theorem fin_leaves {fn : Func} {N : Nat} {tm : Nd V} : ∀ {ds : List Nat} {ch : List Bool} {M : List (Pl A)} {obs : Obs} {lg : Lg} {r M' ch' obs' lg'}, (finT (resT P N tm fn.results.toList []) ds : T A).run ch M obs lg = .ok r M' ch' obs' lg' →
    obs' = obs ∧ M'.length = M.length ∧ ∀ {B : Nat → Prop} {ρ : En} {w0 : World} {D : Nat → Prop} {w : World} {R : Ending → World → Prop}, At ar w0 D w ρ M → scM B M → scS B tm →
      (∀ v w', r = rv v → v.sc B → At ar w0 D w' ρ M' → scM B M' → R (.returned (v.den ρ)) w') → LeavesInM Fence.wide 0 P fn (denL ρ (lV N tm)).toArray R (mks ρ ds) .returning w
  | [], ch, M, obs, lg, r, M', ch', obs', lg', h => by
    obtain ⟨rfl, rfl, l, rfl, h3⟩ := resT_run (ar := ar) h
    refine ⟨rfl, rfl, fun {B ρ w0 D w R} hA hM hs hR => ?_⟩
    obtain ⟨h5, h6⟩ := h3 hA hM hs
    rw [List.append_nil] at hR
    exact ⟨_, results_of h5, hR _ w rfl (packV_sc (scL_iff.2 fun v hv => scL_iff.1 h6 v (List.mem_reverse.1 hv))) hA hM⟩
  | m :: ds, ch, M, obs, lg, r, M', ch', obs', lg', h => by
    have h := get_ok h
    split at h
    case h_2 => cases h
    rename_i hm
    obtain ⟨hlt, h⟩ := put_ok h
    obtain ⟨h1, h2, h3⟩ := fin_leaves (ds := ds) h
    rw [List.length_set] at h2
    refine ⟨h1, h2, fun {B ρ w0 D w R} hA hM hs hR => ⟨(fun e => by cases e), .inl ⟨blkOf (ρ m), _, rfl, ?_, h3 (hA.markEnd hm).2 (scM_none hM m) hs hR⟩⟩⟩
    exact run_takeDeferred (hA.markEnd hm).1
theorem call_of_code {f : FuncId} {fn : Func} {c : Code} {args : List V} (hf : P.funcs[f]? = some fn) (hb : fn.body = some c) (hle : args.length ≤ fn.ntmps) (h : ∀ tm, CodeOK ar P fn.ntmps false c tm [] (S.code fn.ntmps false c tm [])) :
    CallOK ar P f args ((S.code fn.ntmps false c (mkF fn.ntmps 0 args .z) []).bind fun r => match r.x with
      | .exit _ => .fail 92
      | _ => finT (resT P fn.ntmps r.s fn.results.toList []) r.ds) := by
  intro ch M obs lg r M' ch' obs' lg' hr ho B ρ w0 D w K hB hA hM hsc hK R hR
  obtain ⟨r1, M1, ch1, obs1, lg1, e1, e2⟩ := bind_ok hr
  have htm : (denL ρ args).toArray ++ Array.replicate (fn.ntmps - (denL ρ args).toArray.size) undef = (denL ρ (lV fn.ntmps (mkF fn.ntmps 0 args .z))).toArray := by
    rw [show lV fn.ntmps (mkF fn.ntmps 0 args .z) = args ++ List.replicate (fn.ntmps - args.length) undV from lN_mkF undV hle, denL_app, denL_undef]
    apply Array.toList_inj.1
    simp [denL_len]
  have hx1 : r1.x = .normal ∨ r1.x = .ret := by
    obtain ⟨x, ll, tm1, ds1⟩ := r1
    cases x with
    | normal => exact .inl rfl
    | ret => exact .inr rfl
    | exit j => cases e2
  have e3 : (finT (resT P fn.ntmps r1.s fn.results.toList []) r1.ds : T A).run ch1 M1 obs1 lg1 = .ok r M' ch' obs' lg' := by
    rcases hx1 with h1 | h1 <;> (rw [h1] at e2; exact e2)
  obtain ⟨g1, g2, g3⟩ := fin_leaves (ar := ar) e3
  have l1 := run_len _ e1
  refine callsIn_wide.1 (callsIn_of_wp_marks hf hb trivial ?_ (n := 0))
  rw [htm]
  refine h _ ch M obs lg r1 M1 ch1 obs1 lg1 e1 (g1 ▸ ho) B ρ w0 D w (fun r ρ' w' => r = r1 ∧ Ext M.length M1.length ρ ρ' ∧ At ar w0 D w' ρ' M1 ∧ scR (wid B M.length M1.length) r1 ∧ scM (wid B M.length M1.length) M1) (fun n hn => (hB n hn).imp id fun h => by omega) hA hM ⟨all_mkF (p := fun v => V.sc B v) 0 (fun v hv => scL_iff.1 hsc v hv) trivial, fun m hm => by cases hm⟩ (fun ρ' w' a b c d => ⟨rfl, a, b, c, d⟩) none (fun _ => rfl) _ ?_
  rintro r' ρ' w' ⟨rfl, hE, hA1, hs1, hM1⟩
  have hgo := g3 (R := R) hA1 hM1 hs1.2.1 fun v w' hv hvs hA2 hM2 => hR _ ρ' w' v hv (hK ρ' w' (by rw [g2]; exact hE) hA2 (by rw [g2, hv]; exact ⟨⟨hvs, trivial⟩, trivial, fun m hm => by cases hm⟩) (by rw [g2]; exact hM2))
  rcases hx1 with h1 | h1 <;> (rw [h1]; exact hgo)
theorem noGoto_of {Q : Exit → Act → World → Prop} {x : Ex} {a : Act} {w : World} (h : Q (exOf x) a w) : Exit.noGoto Q (exOf x) a w := by cases x <;> exact h
theorem one_ok (hE : Entr P kof) (ih : AllOK ar P S) (N : Nat) (o : Oper) (tm : Nd V) : OneOK ar P N o tm (oneS P kof S N o tm) := by
  unfold oneS
  split
  · rename_i c hc
    split
    · rename_i f hf
      unfold callV
      split
      · rename_i g first cap hg
        exact one_call ih hE hc hf hg
      · rename_i L hL
        exact one_yield ih hc hf hL
      · exact Prom.fail
    · exact one_of_snd hE.keys (fun c' e => by rw [hc] at e; cases e)
  · exact Prom.fail
  · rename_i hnc hnd
    exact one_of_snd hE.keys (fun c' e => hnd c' e)
theorem ops_ok (hone : ∀ N o tm, OneOK ar P N o tm (oneS P kof S N o tm)) (N : Nat) (ops : Array Oper) : ∀ (l : List Nat) (tm : Nd V) (ds : List Nat), OpsOK ar P N ops l tm ds (opsS P kof S N ops l tm ds)
  | [], tm, ds => Prom.ret (fun _ h => ⟨trivial, h⟩) fun ρ w K h fo Q hQ => hQ _ ρ w h
  | i :: rest, tm, ds => ops_cons N (hone N) ops i rest (fun tm ds => ops_ok hone N ops rest tm ds) tm ds
theorem code_scope (ih : AllOK ar P S) (N : Nat) (b : Code) (tm : Nd V) (ds : List Nat) : CodeOK ar P N false (.scope b) tm ds (S.code N false b tm ds) := by
  refine Prom.imp (ih.code N false b tm ds) (fun _ h => h) fun B ρ w K _ h fo hfo Q hQ => ?_
  obtain rfl := hfo rfl
  exact wpIn_wide.2 (wp_scope_straight (wpIn_wide.1 (h none (fun _ => rfl) (Exit.noGoto Q) fun r ρ' w' hk => noGoto_of (hQ r ρ' w' hk.2))))
theorem allOK (hE : Entr P kof) (htbl : ∀ f s, tbl f = some s → ∀ args, CallOK ar P f args (s args)) : ∀ n, AllOK ar P (evS P kof tbl n) := by
  intro n
  induction n using Nat.strongRecOn with
  | _ n ih =>
    cases n with
    | zero => exact ⟨fun N rd c tm ds => Prom.fail, fun f args => Prom.fail, fun f args ch M obs lg r M' ch' obs' lg' h => by cases h⟩
    | succ n =>
      have ih' := ih n (Nat.lt_succ_self n)
      have hone := one_ok hE ih'
      refine ⟨fun N rd c tm ds => ?_, fun f args => ?_, fun f args ch M obs lg r M' ch' obs' lg' hr => ?_⟩
      · cases c with
        | skip => exact Prom.ret (fun _ h => ⟨trivial, h⟩) fun ρ w K h fo hfo Q hQ => wpIn_skip (hQ _ ρ w h)
        | label l => exact Prom.ret (fun _ h => ⟨trivial, h⟩) fun ρ w K h fo hfo Q hQ => wpIn_label (hQ _ ρ w h)
        | region id ops dr =>
          cases dr with
          | false => exact Prom.imp (ops_ok hone N ops (List.range ops.size) tm ds) (fun _ h => h) fun B ρ w K _ h fo hfo Q hQ => wpIn_region (h fo Q fun r ρ' w' hk => hQ r ρ' w' hk.2)
          | true =>
            show CodeOK ar P N rd (.region id ops true) tm ds (match drawQ ops with
              | true => drawS P kof (evS P kof tbl n) N ops (List.range ops.size) tm ds []
              | false => .fail 81)
            split
            · rename_i hd
              exact region_draw hE.mixed (hone N) (drawQ_ok hd)
            · exact Prom.fail
        | seq a b => exact code_seq ih' N rd a b tm ds
        | cond c a b => exact code_cond ih' N rd c a b tm ds
        | block id b => exact code_block ih' N rd id b tm ds
        | loop b => exact code_loop ih N rd b tm ds
        | exit id => exact Prom.ret (fun _ h => ⟨trivial, h⟩) fun ρ w K h fo hfo Q hQ => wpIn_exit (hQ _ ρ w h)
        | ret => exact Prom.ret (fun _ h => ⟨trivial, h⟩) fun ρ w K h fo hfo Q hQ => wpIn_ret (hQ _ ρ w h)
        | scope b =>
          cases rd with
          | true => exact Prom.fail
          | false => exact code_scope ih' N b tm ds
        | rangeFunc g ps assign body =>
          cases rd with
          | true => exact Prom.fail
          | false =>
            show CodeOK ar P N false (.rangeFunc g ps assign body) tm ds (match evx N tm g with
              | .fn (.func f) first cap => .new .mark fun m => .new (.loop .ready none N tm ps assign body) fun L =>
                ((evS P kof tbl n).call f (first ++ [.yl L] ++ cap)).bind (kv fun _ => .get L (rfEnd (fun ds c => (evS P kof tbl n).code N false c tm ds) L m tm ds))
              | _ => .fail 712)
            split
            · rename_i f first cap hg
              exact code_range ih' hE hg
            · exact Prom.fail
        | _ => exact Prom.fail
      · show CallOK ar P f args (callS P tbl (evS P kof tbl n) f args)
        unfold callS
        split
        · exact Prom.fail
        · rename_i fn hfn
          split
          · exact Prom.fail
          · rename_i c hc
            split
            · rename_i s hs
              exact htbl f s hs args
            · split
              · rename_i hle
                exact call_of_code hfn hc (Nat.le_of_ble_eq_true hle) fun tm => ih'.code _ false c tm []
              · exact Prom.fail
      · have hr : (callS P tbl (evS P kof tbl n) f args).run ch M obs lg = .ok r M' ch' obs' lg' := hr
        unfold callS at hr
        split at hr
        · cases hr
        · rename_i fn hfn
          split at hr
          · cases hr
          · rename_i b hb
            exact ⟨fn, b, hfn, hb⟩
end
end Go.Proofs.YthdnonoheochhaaGreatDoor
