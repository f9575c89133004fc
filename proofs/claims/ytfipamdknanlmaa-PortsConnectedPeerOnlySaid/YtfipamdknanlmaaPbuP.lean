/- The plain law of PortsBindUnique: the owners of eight ports. -/
import Derived.Test.YtfipamdknanlmaaPexP
namespace Go.Proofs.Ytfipamdknanlmaa
open Go.RowKit Go.Sort
set_option linter.unusedVariables false

def ownV (o : Option Int) : Int := match o with
  | some s => s + 1
  | none => 0
structure OwnR (B : List (Bk × Int)) (f : Nat → Int) : Prop where
  nodup : (keys B).Nodup
  all : ∀ x ∈ B, x.1.pr = 17 ∧ (∃ k : Nat, k < 8 ∧ x.1.po = 1000 + k) ∧ 0 ≤ x.2 ∧ x.2 < 6
  own : ∀ k : Nat, k < 8 → f k = ownV (look ⟨17, 1000 + k⟩ B)
theorem OwnR.nil : OwnR [] (fun _ => 0) := ⟨by simp [keys], (fun x h => by cases h), fun k _ => rfl⟩
theorem look_of_mem {κ : Type} [DecidableEq κ] {k : κ} {s : Int} : ∀ {m : List (κ × Int)}, (keys m).Nodup → (k, s) ∈ m → look k m = some s
  | [], _, h => by cases h
  | x :: m, hn, h => by
    simp only [keys, List.map_cons, List.nodup_cons] at hn
    unfold look
    rcases List.mem_cons.1 h with e | h
    · rw [← e, if_pos rfl]
    · rw [if_neg (fun e => hn.1 (by rw [← e]; exact List.mem_map_of_mem (f := (·.1)) h))]
      exact look_of_mem hn.2 h
theorem OwnR.nn {B : List (Bk × Int)} {f : Nat → Int} (h : OwnR B f) {k : Nat} (hk : k < 8) : 0 ≤ f k ∧ f k ≤ 6 := by
  rw [h.own k hk]
  cases hl : look ⟨17, 1000 + (k : Int)⟩ B with
  | none => simp [ownV]
  | some s => have := (h.all _ (look_mem hl)).2.2; simp [ownV]; omega
def hasO (f : Nat → Int) (s : Int) (n : Nat) : Bool := (List.range n).any fun j => f j == s + 1
theorem hasO_succ (f : Nat → Int) (s : Int) (n : Nat) : hasO f s (n + 1) = (hasO f s n || (f n == s + 1)) := by simp [hasO, List.range_succ]
theorem OwnR.has {B : List (Bk × Int)} {f : Nat → Int} (h : OwnR B f) {s : Int} (hs : 0 ≤ s) : hasO f s 8 = decide (heldOf B s ≠ []) := by
  rw [Bool.eq_iff_iff]
  simp only [hasO, List.any_eq_true, List.mem_range, beq_iff_eq, decide_eq_true_eq]
  constructor
  · rintro ⟨j, hj, e⟩
    rw [h.own j hj] at e
    cases hl : look ⟨17, 1000 + (j : Int)⟩ B with
    | none => rw [hl] at e; simp [ownV] at e; omega
    | some t =>
      rw [hl] at e
      have : t = s := by simp [ownV] at e; omega
      subst this
      intro hn
      have := held_mem.2 (look_mem hl)
      rw [hn] at this; cases this
  · intro hn
    obtain ⟨k, hk⟩ := List.exists_mem_of_ne_nil _ hn
    have hm := held_mem.1 hk
    obtain ⟨h1, ⟨j, hj, h2⟩, _⟩ := h.all _ hm
    refine ⟨j, hj, ?_⟩
    rw [h.own j hj]
    have : k = ⟨17, 1000 + (j : Int)⟩ := by cases k; simp only at h1 h2; subst h1 h2; rfl
    rw [← this, look_of_mem h.nodup hm]; rfl
theorem bindOf_ne {B : List (Bk × Int)} (h : ∀ x ∈ B, x.1.pr ≠ 0) (s : Int) : (bindOf B s != ⟨0, 0⟩) = decide (heldOf B s ≠ []) := by
  unfold bindOf
  cases hl : heldOf B s with
  | nil => simp
  | cons k t =>
    have hm : (k, s) ∈ B := held_mem.1 (by rw [hl]; simp)
    have := h _ hm
    simp only [List.headD_cons, ne_eq, reduceCtorEq, not_false_eq_true, decide_true, bne_iff_ne]
    rintro rfl
    exact this rfl
theorem OwnR.bind {B : List (Bk × Int)} {f : Nat → Int} (h : OwnR B f) (sd g : Int) {k : Nat} (hk : k < 8) {s : Int} (hs : 0 ≤ s) : bindE ⟨sd, g, B, []⟩ 17 (1000 + k) s = if (f k == 0 && !hasO f s 8) = true then 0 else 231 := by
  have h1 : vpr 17 = true := rfl
  have h2 : vpo (1000 + (k : Int)) = true := by simp [vpo]; omega
  unfold bindE
  rw [h1, h2]
  simp only [Bool.and_self, if_true]
  rw [bindOf_ne (fun x hx => by have := (h.all x hx).1; omega), ← h.has hs]
  have h3 : (f k == 0) = !(look ⟨17, 1000 + (k : Int)⟩ B).isSome := by
    rw [h.own k hk]
    cases hl : look ⟨17, 1000 + (k : Int)⟩ B with
    | none => simp [ownV]
    | some t => have := (h.all _ (look_mem hl)).2.2; simp [ownV]; omega
  rw [h3]
  cases (look ⟨17, 1000 + (k : Int)⟩ B).isSome <;> cases hasO f s 8 <;> rfl
theorem OwnR.add {B : List (Bk × Int)} {f : Nat → Int} (h : OwnR B f) {k : Nat} (hk : k < 8) {s : Int} (hs : 0 ≤ s ∧ s < 6) (h0 : f k = 0) : OwnR (B ++ [(⟨17, 1000 + k⟩, s)]) (fun j => if j = k then s + 1 else f j) := by
  have hl : look ⟨17, 1000 + (k : Int)⟩ B = none := by
    rw [h.own k hk] at h0
    cases hl : look ⟨17, 1000 + (k : Int)⟩ B with
    | none => rfl
    | some t => rw [hl] at h0; have := (h.all _ (look_mem hl)).2.2; simp [ownV] at h0; omega
  refine ⟨keys_app h.nodup (look_none.1 hl), fun x hx => ?_, fun j hj => ?_⟩
  · rcases List.mem_append.1 hx with hx | hx
    · exact h.all x hx
    · simp only [List.mem_cons, List.not_mem_nil, or_false] at hx
      subst hx
      exact ⟨rfl, ⟨k, hk, rfl⟩, hs⟩
  · rw [look_app]
    by_cases e : j = k
    · subst e; rw [if_pos rfl, hl]; simp [ownV]
    · rw [if_neg e, h.own j hj, if_neg (by rw [Bk.mk.injEq]; omega)]
      cases look ⟨17, 1000 + (j : Int)⟩ B <;> rfl
theorem look_rel {κ : Type} [DecidableEq κ] {k : κ} {s : Int} {m : List (κ × Int)} (hn : (keys m).Nodup) : look k (rel s m) = (look k m).bind fun t => if t = s then none else some t := by
  cases hl : look k m with
  | none =>
    simp only [Option.bind_none]
    rw [look_none] at hl ⊢
    intro hm
    obtain ⟨x, hx, e⟩ := List.mem_map.1 hm
    exact hl (e ▸ List.mem_map_of_mem (f := (·.1)) (List.mem_filter.1 hx).1)
  | some t =>
    have hm := look_mem hl
    simp only [Option.bind_some]
    by_cases e : t = s
    · rw [if_pos e, look_none]
      intro hm2
      obtain ⟨x, hx, e2⟩ := List.mem_map.1 hm2
      obtain ⟨h1, h2⟩ := List.mem_filter.1 hx
      have : look k m = some x.2 := look_of_mem hn (by rw [← e2]; exact h1)
      rw [hl] at this
      cases this
      simp [e] at h2
    · rw [if_neg e]
      exact look_of_mem (keys_filter _ hn) (List.mem_filter.2 ⟨hm, by simp [e]⟩)
theorem OwnR.rel {B : List (Bk × Int)} {f : Nat → Int} (h : OwnR B f) (s : Int) (hs : 0 ≤ s) : OwnR (Proofs.Ytfipamdknanlmaa.rel s B) (fun j => if f j = s + 1 then 0 else f j) := by
  refine ⟨keys_filter _ h.nodup, fun x hx => h.all x (List.mem_filter.1 hx).1, fun j hj => ?_⟩
  rw [look_rel h.nodup, h.own j hj]
  cases look ⟨17, 1000 + (j : Int)⟩ B with
  | none => exact ite_self _
  | some t =>
    simp only [Option.bind_some]
    by_cases e : t = s
    · rw [if_pos e, if_pos (by simp [ownV, e])]; rfl
    · rw [if_neg e, if_neg (by simp only [ownV]; omega)]
theorem OwnR.look {B : List (Bk × Int)} {f : Nat → Int} (h : OwnR B f) (sd g : Int) {k : Nat} (hk : k < 8) : lookF ⟨sd, g, B, []⟩ 17 (1000 + k) 1 1 = (if 0 < f k then f k - 1 else 0, decide (0 < f k)) := by
  rw [lookF_def, if_neg (by decide)]
  simp only
  rw [h.own k hk]
  cases hl : Proofs.Ytfipamdknanlmaa.look ⟨17, 1000 + (k : Int)⟩ B with
  | none => simp [ownV]
  | some t =>
    have := (h.all _ (look_mem hl)).2.2
    have h1 : 0 < t + 1 := by omega
    simp [ownV, heldOf, h1]

/-- The owners when the first n of them have been looked through for a socket that is released. -/
def rst (f : Nat → Int) (s : Int) (n : Nat) : Nat → Int := fun i => if i < n ∧ f i = s + 1 then 0 else f i
theorem rst_zero (f : Nat → Int) (s : Int) : rst f s 0 = f := by funext i; simp [rst]
theorem rst_at (f : Nat → Int) (s : Int) (n : Nat) : rst f s n n = f n := by simp [rst]
theorem rst_yes {f : Nat → Int} {s : Int} {n : Nat} (h : f n = s + 1) : (fun j => if j = n then 0 else rst f s n j) = rst f s (n + 1) := by
  funext i
  simp only [rst]
  by_cases e : i = n
  · subst e; rw [if_pos rfl, if_pos ⟨by omega, h⟩]
  · rw [if_neg e]
    by_cases hi : i < n
    · by_cases h2 : f i = s + 1
      · rw [if_pos ⟨hi, h2⟩, if_pos ⟨by omega, h2⟩]
      · rw [if_neg (fun h => h2 h.2), if_neg (fun h => h2 h.2)]
    · rw [if_neg (fun h => hi h.1), if_neg (fun h => by omega)]
theorem rst_no {f : Nat → Int} {s : Int} {n : Nat} (h : ¬ f n = s + 1) : rst f s (n + 1) = rst f s n := by
  funext i
  simp only [rst]
  by_cases h2 : f i = s + 1
  · have : i ≠ n := fun e => h (e ▸ h2)
    by_cases hi : i < n
    · rw [if_pos ⟨by omega, h2⟩, if_pos ⟨hi, h2⟩]
    · rw [if_neg (fun h => by omega), if_neg (fun h => hi h.1)]
  · rw [if_neg (fun h => h2 h.2), if_neg (fun h => h2 h.2)]
theorem rst_all {f : Nat → Int} {s : Int} {n i : Nat} (h : i < n) : rst f s n i = if f i = s + 1 then 0 else f i := by
  simp only [rst]
  by_cases h2 : f i = s + 1
  · rw [if_pos ⟨h, h2⟩, if_pos h2]
  · rw [if_neg (fun h => h2 h.2), if_neg h2]

end Go.Proofs.Ytfipamdknanlmaa
