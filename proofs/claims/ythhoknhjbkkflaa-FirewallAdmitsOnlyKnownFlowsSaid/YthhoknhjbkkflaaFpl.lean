/- What the laws of chapter 22 need to know of the flow table. No program in sight. -/
import Derived.Test.YthhoknhjbkkflaaFw11
namespace Go.Proofs.Ythhoknhjbkkflaa
open Go.RowKit
set_option linter.unusedVariables false

theorem getU_mem {k : FK} {u : Us} : ∀ {m : List (FK × Us)}, getU k m = some u → (k, u) ∈ m
  | [], h => by cases h
  | x :: m, h => by
    simp only [getU] at h
    split at h
    · rename_i e; cases h; rw [e]; exact List.mem_cons_self
    · exact List.mem_cons_of_mem _ (getU_mem h)
theorem getU_none {k : FK} : ∀ {m : List (FK × Us)}, getU k m = none ↔ k ∉ keysU m
  | [] => by simp [getU, keysU]
  | x :: m => by
    simp only [getU, keysU, List.map_cons, List.mem_cons, not_or]
    split
    · rename_i e; simp [e]
    · rename_i e
      rw [getU_none]
      exact ⟨fun h => ⟨e, h⟩, fun h => h.2⟩
theorem mem_getU {k : FK} {u : Us} : ∀ {m : List (FK × Us)}, (keysU m).Nodup → (k, u) ∈ m → getU k m = some u
  | [], _, h => by cases h
  | x :: m, hn, h => by
    simp only [keysU, List.map_cons, List.nodup_cons] at hn
    simp only [getU]
    rcases List.mem_cons.1 h with h | h
    · subst h; simp
    · rw [if_neg, mem_getU hn.2 h]
      intro e
      exact hn.1 (e ▸ List.mem_map_of_mem (f := fun x : FK × Us => x.1) h)
theorem keys_set {k : FK} {u : Us} : ∀ {m : List (FK × Us)}, keysU (setU k u m) = if k ∈ keysU m then keysU m else keysU m ++ [k]
  | [] => by simp [setU, keysU]
  | x :: m => by
    simp only [setU]
    by_cases e : k = x.1
    · rw [if_pos e]; simp [keysU, e]
    · have ih := keys_set (k := k) (u := u) (m := m)
      rw [if_neg e]
      simp only [keysU, List.map_cons] at ih ⊢
      rw [ih]
      by_cases h : k ∈ List.map (fun x => x.1) m
      · simp [h]
      · simp [h, e]
theorem len_set {k : FK} {u : Us} {m : List (FK × Us)} : m.length ≤ (setU k u m).length ∧ (setU k u m).length ≤ m.length + 1 := by
  have h := congrArg List.length (keys_set (k := k) (u := u) (m := m))
  by_cases hk : k ∈ keysU m
  · rw [if_pos hk] at h; simp only [keysU, List.length_map] at h; omega
  · rw [if_neg hk] at h; simp only [keysU, List.length_map, List.length_append, List.length_cons, List.length_nil] at h; omega
theorem nodup_set {k : FK} {u : Us} {m : List (FK × Us)} (h : (keysU m).Nodup) : (keysU (setU k u m)).Nodup := by
  rw [keys_set]
  split
  · exact h
  · rename_i hk
    rw [List.nodup_append]
    exact ⟨h, by simp, fun a ha b hb => by simp at hb; subst hb; exact fun e => hk (e ▸ ha)⟩
theorem mem_set {k k' : FK} {u u' : Us} : ∀ {m : List (FK × Us)}, (keysU m).Nodup → ((k', u') ∈ setU k u m ↔ (k' = k ∧ u' = u) ∨ (k' ≠ k ∧ (k', u') ∈ m))
  | [], _ => by simp [setU]
  | x :: m, hn => by
    simp only [keysU, List.map_cons, List.nodup_cons] at hn
    simp only [setU]
    by_cases e : k = x.1
    · rw [if_pos e]
      simp only [List.mem_cons, Prod.mk.injEq]
      constructor
      · rintro (h | h)
        · exact .inl h
        · refine .inr ⟨fun e2 => hn.1 ?_, .inr h⟩
          rw [← e, ← e2]; exact List.mem_map_of_mem (f := fun x : FK × Us => x.1) h
      · rintro (h | ⟨h1, h | h⟩)
        · exact .inl h
        · exact absurd (by rw [e, ← h]) h1
        · exact .inr h
    · rw [if_neg e]
      simp only [List.mem_cons]
      rw [mem_set hn.2]
      constructor
      · rintro (h | h | h)
        · exact .inr ⟨fun e2 => e (by rw [← e2, ← h]), .inl h⟩
        · exact .inl h
        · exact .inr ⟨h.1, .inr h.2⟩
      · rintro (h | ⟨h1, h | h⟩)
        · exact .inr (.inl h)
        · exact .inl h
        · exact .inr (.inr ⟨h1, h⟩)
theorem mem_exp {now : Int} {k : FK} {u : Us} {m : List (FK × Us)} : (k, u) ∈ expF now m ↔ (k, u) ∈ m ∧ oldU now u = false := by
  simp [expF, List.mem_filter]
theorem old_f {now : Int} {u : Us} : oldU now u = false ↔ now ≤ u.la + 400 := by
  simp [oldU]; omega
theorem mem_del {k k' : FK} {u : Us} {m : List (FK × Us)} : (k', u) ∈ delU k m ↔ (k', u) ∈ m ∧ k' ≠ k := by simp [delU, List.mem_filter]
theorem len_del {k : FK} : ∀ {m : List (FK × Us)}, k ∈ keysU m → (delU k m).length + 1 ≤ m.length
  | [], h => by simp [keysU] at h
  | x :: m, h => by
    by_cases e : x.1 = k
    · simp only [delU]
      rw [List.filter_cons_of_neg (by simp [e])]
      have := List.length_filter_le (fun x : FK × Us => decide (x.1 ≠ k)) m
      simp only [List.length_cons]; omega
    · have : k ∈ keysU m := by
        simp only [keysU, List.map_cons, List.mem_cons] at h
        rcases h with h | h
        · exact absurd h.symm e
        · exact h
      have := len_del this
      simp only [delU] at this ⊢
      rw [List.filter_cons_of_pos (by simp [e])]
      simp only [List.length_cons]; omega
theorem nodup_exp {now : Int} {m : List (FK × Us)} (h : (keysU m).Nodup) : (keysU (expF now m)).Nodup := keysU_filter _ h
theorem nodup_del {k : FK} {m : List (FK × Us)} (h : (keysU m).Nodup) : (keysU (delU k m)).Nodup := keysU_filter _ h
theorem room_facts {m m1 : List (FK × Us)} (h : RoomU m m1) (hn : (keysU m).Nodup) (hl : m.length ≤ 32) : (keysU m1).Nodup ∧ m1.length ≤ 31 ∧ m1.length ≤ m.length ∧ (∀ x, x ∈ m1 → x ∈ m) ∧ (m.length < 32 → m1 = m) := by
  rcases h with ⟨h1, rfl⟩ | ⟨h1, k, hk, rfl⟩
  · exact ⟨hn, by omega, Nat.le_refl _, fun _ h => h, fun _ => rfl⟩
  · have := len_del hk
    exact ⟨nodup_del hn, by omega, by omega, fun ⟨k', u⟩ h => (mem_del.1 h).1, fun h => by omega⟩
theorem valid_key {x : Fl} (h : validF x = true) : keyF x ≠ ⟨0, 0, 0, 0, 0⟩ := by
  intro e
  simp only [keyF, FK.mk.injEq] at e
  simp [validF, hostB, e.2.1] at h
theorem FW.mono {T T' N N' : Int} {st : FSt} (h : FW T N st) (h1 : T ≤ T') (h2 : N ≤ N') : FW T' N' st :=
  ⟨h.nd, fun x hx => by have := h.tm x hx; omega, by have := h.ins; omega, h.rl, h.nz, h.len⟩
/-- What a call leaves of the table. -/
structure Aft (st : FSt) (now : Int) (x : Fl) (st' : FSt) : Prop where
  rl : st'.rl = st.rl
  len : st'.m.length ≤ st.m.length + 1
  old : ∀ k u, (k, u) ∈ st'.m → (k, u) ∈ expF now st.m ∨ (k = keyF x ∧ u.la = now)
  keep : st.m.length < 32 → ∀ k u, (k, u) ∈ expF now st.m → k ≠ keyF x → (k, u) ∈ st'.m
  ins : st.ins ≤ st'.ins ∧ st'.ins ≤ st.ins + 1
theorem expF_len (now : Int) (m : List (FK × Us)) : (expF now m).length ≤ m.length := List.length_filter_le _ _
theorem exp_fw {T N now : Int} {st : FSt} (h : FW T N st) : FW T N ⟨st.rl, expF now st.m, st.ins⟩ :=
  ⟨nodup_exp h.nd, fun x hx => h.tm x (List.mem_filter.1 hx).1, h.ins, h.rl, fun x hx => h.nz x (List.mem_filter.1 hx).1, Nat.le_trans (expF_len _ _) h.len⟩
theorem exp_aft {now : Int} {x : Fl} {st : FSt} : Aft st now x ⟨st.rl, expF now st.m, st.ins⟩ :=
  ⟨rfl, Nat.le_trans (expF_len _ _) (Nat.le_succ _), fun _ _ h => .inl h, fun _ _ _ h _ => h, ⟨Int.le_refl _, by simp only; omega⟩⟩
theorem pass_fw {T N now : Int} {st st' : FSt} {x : Fl} {inn r : Bool} (h : FW T N st) (hT : T ≤ now) (h0 : 0 ≤ now) (hp : PassR st now x inn r st') : FW now (N + 1) st' ∧ Aft st now x st' := by
  have he := (exp_fw (now := now) h).mono hT (show N ≤ N + 1 by omega)
  have hset : ∀ (m1 : List (FK × Us)) (n i : Int), (keysU m1).Nodup → (∀ y ∈ m1, y ∈ expF now st.m) → (setU (keyF x) ⟨now, n⟩ m1).length ≤ 32 → validF x = true → (0 ≤ i ∧ i ≤ N + 1) → FW now (N + 1) ⟨st.rl, setU (keyF x) ⟨now, n⟩ m1, i⟩ := fun m1 n i hn hs hl hv hi => by
    refine ⟨nodup_set hn, fun ⟨k, u⟩ hy => ?_, hi, h.rl, fun ⟨k, u⟩ hy => ?_, hl⟩
    · rcases (mem_set hn).1 hy with ⟨_, rfl⟩ | ⟨_, h2⟩
      · exact ⟨h0, Int.le_refl _⟩
      · exact he.tm _ (hs _ h2)
    · rcases (mem_set hn).1 hy with ⟨rfl, _⟩ | ⟨_, h2⟩
      · exact valid_key hv
      · exact he.nz _ (hs _ h2)
  have hel := expF_len now st.m
  have hil := h.ins
  have hlen := h.len
  rcases hp with ⟨_, _, rfl⟩ | ⟨hv, u, hu, _, rfl⟩ | ⟨_, _, _, _, rfl⟩ | ⟨_, _, _, _, _, rfl⟩ | ⟨hv, hu, _, _, _, m1, hm, rfl⟩
  · exact ⟨he, exp_aft⟩
  · have hk : keyF x ∈ keysU (expF now st.m) := List.mem_map_of_mem (f := fun x : FK × Us => x.1) (getU_mem hu)
    have hsl : (setU (keyF x) ⟨now, u.nu⟩ (expF now st.m)).length = (expF now st.m).length := by
      have h := congrArg List.length (keys_set (k := keyF x) (u := ⟨now, u.nu⟩) (m := expF now st.m))
      rw [if_pos hk] at h
      simpa [keysU] using h
    refine ⟨hset _ _ _ he.nd (fun _ h => h) (by omega) hv (by omega), rfl, by simp only; omega, fun k u' hm => ?_, fun _ k u' hm hk => ?_, by simp only; omega⟩
    · rcases (mem_set he.nd).1 hm with ⟨rfl, rfl⟩ | ⟨_, h2⟩
      · exact .inr ⟨rfl, rfl⟩
      · exact .inl h2
    · exact (mem_set he.nd).2 (.inr ⟨hk, hm⟩)
  · exact ⟨he, exp_aft⟩
  · exact ⟨he, exp_aft⟩
  · obtain ⟨r1, r2, r3, r4, r5⟩ := room_facts hm he.nd he.len
    have hsl := len_set (k := keyF x) (u := ⟨now, st.ins + 1⟩) (m := m1)
    refine ⟨hset _ _ _ r1 r4 (by omega) hv (by omega), rfl, by simp only at *; omega, fun k u' hm => ?_, fun hl k u' hm hk => ?_, by simp only; omega⟩
    · rcases (mem_set r1).1 hm with ⟨rfl, rfl⟩ | ⟨_, h2⟩
      · exact .inr ⟨rfl, rfl⟩
      · exact .inl (r4 _ h2)
    · rw [r5 (by omega)]
      exact (mem_set he.nd).2 (.inr ⟨hk, hm⟩)
theorem did_fw {T N now how : Int} {st st' : FSt} {x : Fl} {r : Bool} (h : FW T N st) (hT : T ≤ now) (h0 : 0 ≤ now) (hp : DidR st how now x r st') : FW now (N + 1) st' ∧ Aft st now x st' := by
  rcases hp with ⟨_, hp⟩ | ⟨_, _, hp⟩ | ⟨_, _, rfl⟩
  · exact pass_fw h hT h0 hp
  · exact pass_fw h hT h0 hp
  · exact ⟨(exp_fw h).mono hT (by omega), exp_aft⟩
theorem did_out {st st' : FSt} {now : Int} {x : Fl} {r : Bool} (h : DidR st 0 now x r st') : PassR st now x false r st' := by
  rcases h with ⟨_, h⟩ | ⟨h, _⟩ | ⟨h, _⟩
  · exact h
  · exact absurd h (by decide)
  · exact absurd h (by decide)
theorem did_in {st st' : FSt} {now : Int} {x : Fl} {r : Bool} (h : DidR st 2 now x r st') : PassR st now x true r st' := by
  rcases h with ⟨h, _⟩ | ⟨_, _, h⟩ | ⟨h, _⟩
  · exact absurd h (by decide)
  · exact h
  · exact absurd h (by decide)
theorem did_quo {st st' : FSt} {now : Int} {x : Fl} {r : Bool} (h : DidR st 4 now x r st') : r = quoF now x st.m ∧ st' = ⟨st.rl, expF now st.m, st.ins⟩ := by
  rcases h with ⟨h, _⟩ | ⟨_, h, _⟩ | ⟨_, h⟩
  · exact absurd h (by decide)
  · exact absurd h (by decide)
  · exact h
/-- A packet that passes stands in the table afterwards, unless it is a reset of an unknown flow. -/
theorem pass_in {T N now : Int} {st st' : FSt} {x : Fl} {inn : Bool} (h : FW T N st) (hp : PassR st now x inn true st') (hr : x.rs = false) : validF x = true ∧ ∃ n, (keyF x, (⟨now, n⟩ : Us)) ∈ st'.m := by
  have hn := nodup_exp (now := now) h.nd
  rcases hp with ⟨_, h1, _⟩ | ⟨hv, u, hu, _, rfl⟩ | ⟨_, _, _, h1, _⟩ | ⟨_, _, _, _, h1, _⟩ | ⟨hv, hu, _, _, _, m1, hm, rfl⟩
  · cases h1
  · exact ⟨hv, u.nu, (mem_set hn).2 (.inl ⟨rfl, rfl⟩)⟩
  · cases h1
  · rw [hr] at h1; cases h1
  · obtain ⟨r1, _⟩ := room_facts hm hn (Nat.le_trans (expF_len _ _) h.len)
    exact ⟨hv, _, (mem_set r1).2 (.inl ⟨rfl, rfl⟩)⟩
theorem quo_mem {now : Int} {x : Fl} {m : List (FK × Us)} {u : Us} (hn : (keysU m).Nodup) (hv : validF x = true) (h : (keyF x, u) ∈ m) (hu : now ≤ u.la + 400) : quoF now x m = true := by
  unfold quoF
  rw [hv, mem_getU (nodup_exp hn) (mem_exp.2 ⟨h, old_f.2 hu⟩)]; rfl
theorem exp_of {now : Int} {m : List (FK × Us)} {k : FK} {u : Us} (h : (k, u) ∈ m) (hu : now ≤ u.la + 400) : (k, u) ∈ expF now m := mem_exp.2 ⟨h, old_f.2 hu⟩

end Go.Proofs.Ythhoknhjbkkflaa
