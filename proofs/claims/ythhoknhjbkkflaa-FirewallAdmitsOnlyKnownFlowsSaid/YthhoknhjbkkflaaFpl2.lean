/- The laws of chapter 22 without the program: what a sequence of packets does. -/
import Derived.Test.YthhoknhjbkkflaaFpl
import Derived.Test.YthhoknhjbkkflaaFw12
namespace Go.Proofs.Ythhoknhjbkkflaa
open Go.RowKit
set_option linter.unusedVariables false

def didF (st : FSt) (how now : Int) (x : Fl) : Bool × FSt :=
  if pk how 5 < 2 then passF st now x false else if pk how 5 < 4 then passF st now x true else (quoF now x st.m, ⟨st.rl, expF now st.m, st.ins⟩)
theorem didR_f {st st' : FSt} {how now : Int} {x : Fl} {r : Bool} (h : DidR st how now x r st') (hl : st.m.length < 32) : didF st how now x = (r, st') := by
  unfold didF
  rcases h with ⟨h1, hp⟩ | ⟨h1, h2, hp⟩ | ⟨h1, rfl, rfl⟩
  · obtain ⟨e1, e2⟩ := passR_f hp hl
    rw [if_pos h1, e1, e2]
  · obtain ⟨e1, e2⟩ := passR_f hp hl
    rw [if_neg (by omega), if_pos h2, e1, e2]
  · rw [if_neg (by omega), if_neg (by omega)]
theorem passF_R (st : FSt) (now : Int) (x : Fl) (inn : Bool) (hl : st.m.length < 32) : PassR st now x inn (passF st now x inn).1 (passF st now x inn).2 := by
  have hl2 := expF_len now st.m
  unfold passF PassR
  cases hv : validF x with
  | false => simp
  | true =>
    cases hu : getU (keyF x) (expF now st.m) with
    | some u => simp
    | none =>
      cases ha : admitF st.rl x inn with
      | false => simp
      | true =>
        cases hr : x.rs with
        | true => simp
        | false => simp; exact ⟨expF now st.m, .inl ⟨by omega, rfl⟩, rfl⟩
theorem didF_R {st st' : FSt} {how now : Int} {x : Fl} {r : Bool} (h : didF st how now x = (r, st')) (hl : st.m.length < 32) : DidR st how now x r st' := by
  unfold didF at h
  unfold DidR
  by_cases h1 : pk how 5 < 2
  · rw [if_pos h1] at h
    have := passF_R st now x false hl
    rw [h] at this
    exact .inl ⟨h1, this⟩
  · rw [if_neg h1] at h
    by_cases h2 : pk how 5 < 4
    · rw [if_pos h2] at h
      have := passF_R st now x true hl
      rw [h] at this
      exact .inr (.inl ⟨by omega, h2, this⟩)
    · rw [if_neg h2] at h
      cases h
      exact .inr (.inr ⟨by omega, rfl, rfl⟩)
section
variable {w0 w : World} {D : Nat → Prop} {L : List Res} {f : Nat} {st st' : FSt}
theorem did_f {T N how now : Int} {x : Fl} {r : Bool} (h : Own w0 D w L) (i : Nat) (hi : L[i]? = some (resF f st)) (hF : didF st how now x = (r, st')) (hW : FW T N st) (hl : st.m.length < 32) (hT : T ≤ 1000000000) (hN : N ≤ 1000000000) (hnow : timeB now) (hh : i64B how) :
    Calls Try.prog 13 #[.pointer (some ⟨f, 0, none⟩), .int .i64 how, .int .i64 now, flV x] w (OPost w0 D (L.set i (resF f st')) (.int .i64 (i01 r)) w) := by
  refine (did_o h i hi hW hT hN hnow hh).mono ?_
  rintro e w' ⟨⟨r2, st2⟩, v, ⟨hP, rfl⟩, rfl, hO, hs⟩
  have := didR_f hP hl
  rw [hF] at this
  cases this
  exact ⟨rfl, hO, hs⟩
end
theorem tab_in {xs : List Int} {i : Int} (n : Nat) (hn : xs.length = n) (P : Int → Prop) (hP : ∀ x ∈ xs, P x) (h : 0 ≤ i ∧ i < n) : P (tabI xs i) := hP _ (tabI_mem h.1 (by rw [hn]; exact h.2))
theorem flowF_valid (x : Fw) : validF (flowF x) = true := by
  have p1 := tab_in 4 (xs := [6, 6, 17, 1]) (i := pk x.pr 4) rfl (fun y => 0 ≤ y ∧ y ≤ 255) (by simp) (pk_bd _ 4 (by decide))
  have p2 := tab_in 3 (xs := [5000, 80, 5001]) (i := pk x.po 3) rfl (fun y => portB y = true) (by simp [portB]) (pk_bd _ 3 (by decide))
  have p3 := tab_in 3 (xs := [80, 5000, 79]) (i := pk (x.po.tdiv 3) 3) rfl (fun y => portB y = true) (by simp [portB]) (pk_bd _ 3 (by decide))
  obtain ⟨q1, q2⟩ := pk_bd x.th 7 (by decide)
  have p4 : hostB (167772161 + pk x.th 7) = true := by
    have h : pk x.th 7 = 0 ∨ pk x.th 7 = 1 ∨ pk x.th 7 = 2 ∨ pk x.th 7 = 3 ∨ pk x.th 7 = 4 ∨ pk x.th 7 = 5 ∨ pk x.th 7 = 6 := by omega
    rcases h with h | h | h | h | h | h | h <;> (rw [h]; decide)
  have p5 : hostB 167772170 = true := by decide
  show (decide (0 ≤ tabI [6, 6, 17, 1] (pk x.pr 4) ∧ tabI [6, 6, 17, 1] (pk x.pr 4) ≤ 255) && hostB 167772170 && hostB (167772161 + pk x.th 7) && portB (tabI [5000, 80, 5001] (pk x.po 3)) && portB (tabI [80, 5000, 79] (pk (x.po.tdiv 3) 3))) = true
  rw [decide_eq_true p1, p5, p4, p2, p3]; rfl
theorem valid_flags {x y : Fl} (h : keyF x = keyF y) : validF x = validF y := by
  obtain ⟨a, b, c, d, e, _, _, _, _⟩ := x
  obtain ⟨a', b', c', d', e', _, _, _, _⟩ := y
  simp only [keyF, FK.mk.injEq] at h
  obtain ⟨rfl, rfl, rfl, rfl, rfl⟩ := h
  rfl
theorem ruleF_valid (x : Rw) : invalR (ruleF x) = false := by
  have p1 := tab_in 4 (xs := [0, 6, 17, 1]) (i := pk x.pr 4) rfl (fun y => 0 ≤ y ∧ y ≤ 255) (by simp) (pk_bd _ 4 (by decide))
  have p2 := tLo_bd (pk x.lo 5) (pk_bd _ 5 (by decide)).1 (pk_bd _ 5 (by decide)).2
  have p3 := tMa_bd (pk x.ma 4) (pk_bd _ 4 (by decide)).1 (pk_bd _ 4 (by decide)).2
  obtain ⟨q1, q2⟩ := pk_bd x.ne 5 (by decide)
  have p4 : vpB (tNa (pk x.ne 5)) (tNb (pk x.ne 5)) = true := by
    have h : pk x.ne 5 = 0 ∨ pk x.ne 5 = 1 ∨ pk x.ne 5 = 2 ∨ pk x.ne 5 = 3 ∨ pk x.ne 5 = 4 := by omega
    rcases h with h | h | h | h | h <;> (rw [h]; decide)
  show (!(decide (0 ≤ tabI [0, 6, 17, 1] (pk x.pr 4) ∧ tabI [0, 6, 17, 1] (pk x.pr 4) ≤ 255) && vpB (tNa (pk x.ne 5)) (tNb (pk x.ne 5)) && decide (0 ≤ tabI [0, 1, 79, 80, 5000] (pk x.lo 5) ∧ tabI [0, 1, 79, 80, 5000] (pk x.lo 5) ≤ mnF (tabI [0, 1, 79, 80, 5000] (pk x.lo 5) + tabI [0, 1, 100, 65535] (pk x.ma 4)) 65535 ∧ mnF (tabI [0, 1, 79, 80, 5000] (pk x.lo 5) + tabI [0, 1, 100, 65535] (pk x.ma 4)) 65535 ≤ 65535))) = false
  rw [decide_eq_true p1, p4, decide_eq_true (by unfold mnF; omega)]; rfl
theorem rules_ok (x : Nat → Rw) (n : Nat) (p : Rl → Bool) : checkE ((rulesTo x (min n 16)).filter p) = 0 := by
  unfold checkE
  rw [if_neg]
  rintro (h | h)
  · have := List.length_filter_le p (rulesTo x (min n 16))
    rw [rulesTo_len] at this; omega
  · obtain ⟨r, hr, hv⟩ := List.any_eq_true.1 h
    obtain ⟨i, _, rfl⟩ := List.mem_map.1 (List.mem_filter.1 hr).1
    rw [ruleF_valid] at hv; cases hv
/-- No rule for incoming packets lets one pass: an unknown incoming packet does not pass. -/
theorem admit_in {rl : List Rl} {x : Fl} (h : ∀ r ∈ rl, r.inn = true → r.ps = false) : admitF rl x true = false := by
  unfold admitF
  cases hf : rl.find? (matchR x true) with
  | none => rfl
  | some r =>
    have h1 := List.mem_of_find?_eq_some hf
    have h2 := List.find?_some hf
    simp only
    refine h r h1 ?_
    simp only [matchR, Bool.and_eq_true, beq_iff_eq] at h2
    exact h2.1.1.1.1
/-- FirewallAdmitsReplies. -/
structure RepI (went : Bool) (ky : FK) (rl : List Rl) (k : Nat) (st : FSt) : Prop where
  fw : FW 0 (k + 1) st
  rl : st.rl = rl
  len : st.m.length ≤ k + 1
  yes : went = true → ∃ u, (ky, u) ∈ st.m ∧ u.la = 0
  no : went = false → ∀ u, (ky, u) ∉ st.m
theorem fw_start {rl : List Rl} (hl : rl.length ≤ 1000) : FW 0 0 ⟨rl, [], 0⟩ := ⟨by simp [keysU], by simp, by simp, hl, by simp, by simp⟩
theorem rep_start {rl : List Rl} {y : Fl} {r : Bool} {st : FSt} (hl : rl.length ≤ 1000) (hr : y.rs = false) (h : didF ⟨rl, [], 0⟩ 0 0 y = (r, st)) : RepI r (keyF y) rl 0 st := by
  have hw := fw_start hl
  have hR := didF_R h (by simp)
  obtain ⟨h1, h2⟩ := did_fw hw (Int.le_refl _) (Int.le_refl _) hR
  refine ⟨h1, h2.rl, h2.len, fun e => ?_, fun e u hu => ?_⟩
  · subst e
    obtain ⟨_, n, hm⟩ := pass_in hw (did_out hR) hr
    exact ⟨_, hm, rfl⟩
  · subst e
    rcases did_out hR with ⟨_, _, rfl⟩ | ⟨_, _, _, h3, _⟩ | ⟨_, _, _, _, rfl⟩ | ⟨_, _, _, h3, _⟩ | ⟨_, _, _, h3, _⟩
    · simp [expF] at hu
    · cases h3
    · simp [expF] at hu
    · cases h3
    · cases h3
theorem RepI.up {went : Bool} {ky : FK} {rl : List Rl} {k : Nat} {st : FSt} (h : RepI went ky rl k st) : RepI went ky rl (k + 1) st :=
  ⟨h.fw.mono (Int.le_refl _) (by omega), h.rl, by have := h.len; omega, h.yes, h.no⟩
theorem RepI.step {went : Bool} {ky : FK} {rl : List Rl} {k : Nat} {st st' : FSt} {how : Int} {z : Fl} {r : Bool} (h : RepI went ky rl k st) (hk : k < 20) (hz : keyF z ≠ ky) (hd : didF st how 0 z = (r, st')) : RepI went ky rl (k + 1) st' := by
  have hlt : st.m.length < 32 := by have := h.len; omega
  have hR := didF_R hd hlt
  obtain ⟨h1, h2⟩ := did_fw h.fw (Int.le_refl _) (Int.le_refl _) hR
  refine ⟨h1.mono (Int.le_refl _) (by omega), by rw [h2.rl, h.rl], by have := h2.len; have := h.len; omega, fun e => ?_, fun e u hu => ?_⟩
  · obtain ⟨u, hu, h0⟩ := h.yes e
    exact ⟨u, h2.keep hlt _ _ (exp_of hu (by omega)) (fun e => hz e.symm), h0⟩
  · rcases h2.old _ _ hu with h3 | ⟨h3, _⟩
    · exact h.no e u (mem_exp.1 h3).1
    · exact hz h3.symm
theorem rep_end {went : Bool} {y : Fl} {rl : List Rl} {k : Nat} {st st2 st3 : FSt} {n : Int} {q b : Bool} (h : RepI went (keyF y) rl k st) (hk : k ≤ 20) (hn : 0 ≤ n) (hv : validF y = true) (hrl : ∀ r ∈ rl, r.inn = true → r.ps = false)
    (h1 : didF st 4 n y = (q, st2)) (h2 : didF st2 2 n y = (b, st3)) : q = (went && decide (n ≤ 400)) ∧ b = (went && decide (n ≤ 400)) := by
  have hlt : st.m.length < 32 := by have := h.len; omega
  obtain ⟨hq, rfl⟩ := did_quo (didF_R h1 hlt)
  have hlt2 : (expF n st.m).length < 32 := by have := expF_len n st.m; omega
  have hb := did_in (didF_R h2 hlt2)
  have hnd := h.fw.nd
  have hnd2 := nodup_exp (now := n) (nodup_exp (now := n) hnd)
  by_cases hc : went = true ∧ n ≤ 400
  · obtain ⟨hw, hn4⟩ := hc
    obtain ⟨u, hu, h0⟩ := h.yes hw
    rw [hw, decide_eq_true hn4]
    refine ⟨by rw [hq, quo_mem hnd hv hu (by omega)]; rfl, ?_⟩
    have hg := mem_getU hnd2 (exp_of (now := n) (exp_of (now := n) hu (by omega)) (by omega))
    rcases hb with ⟨h3, _⟩ | ⟨_, _, _, h3, _⟩ | ⟨_, h3, _⟩ | ⟨_, h3, _⟩ | ⟨_, h3, _⟩
    · rw [hv] at h3; cases h3
    · exact h3
    · rw [hg] at h3; cases h3
    · rw [hg] at h3; cases h3
    · rw [hg] at h3; cases h3
  · have hno : ∀ u, (keyF y, u) ∉ expF n st.m := fun u hu => by
      obtain ⟨h3, h4⟩ := mem_exp.1 hu
      rw [old_f] at h4
      cases hw : went with
      | false => exact h.no hw u h3
      | true =>
        obtain ⟨u', hu', h0⟩ := h.yes hw
        have e := mem_getU hnd h3
        rw [mem_getU hnd hu'] at e
        cases e
        exact hc ⟨hw, by omega⟩
    have hg : getU (keyF y) (expF n st.m) = none := by
      cases hg : getU (keyF y) (expF n st.m) with
      | none => rfl
      | some u => exact absurd (getU_mem hg) (hno u)
    have hg2 : getU (keyF y) (expF n (expF n st.m)) = none := by
      cases hg : getU (keyF y) (expF n (expF n st.m)) with
      | none => rfl
      | some u => exact absurd (mem_exp.1 (getU_mem hg)).1 (hno u)
    have e : (went && decide (n ≤ 400)) = false := by
      cases hw : went with
      | false => rfl
      | true => simp; exact Int.not_le.1 (fun h => hc ⟨hw, h⟩)
    rw [e]
    refine ⟨by rw [hq]; unfold quoF; rw [hg]; simp, ?_⟩
    rcases hb with ⟨_, h3, _⟩ | ⟨_, u, h3, _⟩ | ⟨_, _, _, h3, _⟩ | ⟨_, _, h3, _⟩ | ⟨_, _, h3, _⟩
    · exact h3
    · rw [hg2] at h3; cases h3
    · exact h3
    · have e3 : st.rl = rl := h.rl
      rw [e3, admit_in hrl] at h3; cases h3
    · have e3 : st.rl = rl := h.rl
      rw [e3, admit_in hrl] at h3; cases h3

end Go.Proofs.Ythhoknhjbkkflaa
