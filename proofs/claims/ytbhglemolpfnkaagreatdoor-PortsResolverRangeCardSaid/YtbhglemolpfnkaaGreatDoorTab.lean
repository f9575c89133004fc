/- A table of entries with owners, as two maps: from an entry to its owner, and from an owner to the row of its entries. No program in sight. -/
import Derived.Test.YtbhglemolpfnkaaGreatDoorBc
set_option linter.unusedVariables false
set_option maxRecDepth 100000
set_option maxHeartbeats 32000000
namespace Go.Proofs.YtbhglemolpfnkaaGreatDoor
open Go.RowKit
set_option linter.unusedSectionVars false

variable {w : World}
section
variable {κ : Type} [DecidableEq κ]
def ownM (m : List (κ × Int)) : List (κ × Value) := m.map fun x => (x.1, .int .i64 x.2)
def heldOf (m : List (κ × Int)) (s : Int) : List κ := (m.filter fun x => x.2 = s).map (·.1)
def look (k : κ) : List (κ × Int) → Option Int
 | [] => none
 | x :: l => if k = x.1 then some x.2 else look k l
def keys (m : List (κ × Int)) : List κ := m.map (·.1)
def dele (k : κ) (m : List (κ × Int)) : List (κ × Int) := m.filter fun x => x.1 ≠ k
def rel (s : Int) (m : List (κ × Int)) : List (κ × Int) := m.filter fun x => x.2 ≠ s

theorem asc_ownM (k : κ) : ∀ m : List (κ × Int), asc k (ownM m) = (look k m).map (fun n => .int .i64 n)
 | [] => rfl
 | x :: m => by
  simp only [ownM, List.map_cons, asc, look]
  split
  ·
   rfl
  ·
   exact asc_ownM k m
theorem look_none {k : κ} : ∀ {m : List (κ × Int)}, look k m = none ↔ k ∉ keys m
 | [] => by simp [look, keys]
 | x :: m => by
  simp only [look, keys, List.map_cons, List.mem_cons, not_or]
  split
  ·
   rename_i h; simp [h]
  ·
   rename_i h; rw [look_none]; simp [h, keys]
theorem mset_new {k : κ} {s : Int} : ∀ {m : List (κ × Int)}, k ∉ keys m → mset k (.int .i64 s) (ownM m) = ownM (m ++ [(k, s)])
 | [], _ => rfl
 | x :: m, h => by
  simp only [keys, List.map_cons, List.mem_cons, not_or] at h
  simp only [ownM, List.map_cons, mset, List.cons_append, if_neg h.1]
  rw [← ownM, mset_new h.2]; rfl
theorem mdel_ownM {k : κ} : ∀ {m : List (κ × Int)}, (keys m).Nodup → mdel k (ownM m) = ownM (dele k m)
 | [], _ => rfl
 | x :: m, h => by
  simp only [keys, List.map_cons, List.nodup_cons] at h
  simp only [ownM, List.map_cons, mdel, dele]
  by_cases hk : k = x.1
  ·
   rw [if_pos hk, List.filter_cons_of_neg (by simp [hk])]
   congr 1
   rw [List.filter_eq_self.2]
   intro y hy
   have : y.1 ≠ k := fun e => h.1 (by rw [← hk, ← e]; exact List.mem_map_of_mem hy)
   simp [this]
  ·
   rw [if_neg hk, List.filter_cons_of_pos (by simp [Ne.symm hk])]
   simp only [List.map_cons]
   rw [← ownM, mdel_ownM (k := k) h.2]; rfl
theorem keys_filter {m : List (κ × Int)} (p : κ × Int → Bool) (h : (keys m).Nodup) : (keys (m.filter p)).Nodup := by
 unfold keys at *; exact (List.filter_sublist.map _).nodup h
theorem keys_app {m : List (κ × Int)} {k : κ} {s : Int} (h : (keys m).Nodup) (hk : k ∉ keys m) : (keys (m ++ [(k, s)])).Nodup := by
 simp only [keys, List.map_append, List.map_cons, List.map_nil] at *
 rw [List.nodup_append]
 refine ⟨h, by simp, ?_⟩
 intro a ha b hb
 simp only [List.mem_cons, List.not_mem_nil, or_false] at hb
 subst hb
 exact fun e => hk (e ▸ ha)
theorem held_app (m : List (κ × Int)) (k : κ) (s t : Int) : heldOf (m ++ [(k, s)]) t = heldOf m t ++ if s = t then [k] else [] := by
 simp only [heldOf, List.filter_append, List.map_append]
 by_cases h : s = t <;> simp [h]
theorem held_rel (m : List (κ × Int)) (s t : Int) : heldOf (rel s m) t = if t = s then [] else heldOf m t := by
 simp only [heldOf, rel, List.filter_filter]
 by_cases h : t = s
 ·
  subst h
  rw [if_pos rfl, List.map_eq_nil_iff, List.filter_eq_nil_iff]
  simp
 ·
  rw [if_neg h]
  congr 1
  apply List.filter_congr
  intro x _
  by_cases hx : x.2 = t
  ·
   simp [hx, h]
  ·
   simp [hx]
theorem held_mem {m : List (κ × Int)} {s : Int} {k : κ} : k ∈ heldOf m s ↔ (k, s) ∈ m := by
 simp only [heldOf, List.mem_map, List.mem_filter, decide_eq_true_eq]
 constructor
 ·
  rintro ⟨⟨a, b⟩, ⟨h1, h2⟩, h3⟩; simp only at h2 h3; subst h2 h3; exact h1
 ·
  intro h; exact ⟨(k, s), ⟨h, rfl⟩, rfl⟩
theorem dele_held {m : List (κ × Int)} (hn : (keys m).Nodup) (s : Int) : (m.filter fun x => x.1 ∉ heldOf m s) = rel s m := by
 apply List.filter_congr
 intro x hx
 have : x.1 ∈ heldOf m s ↔ x.2 = s := by
  rw [held_mem]
  constructor
  ·
   intro h
   obtain ⟨a, b⟩ := x
   have e : ∀ l : List (κ × Int), (keys l).Nodup → (a, b) ∈ l → (a, s) ∈ l → b = s := by
    intro l
    induction l with
    | nil => intro _ h; cases h
    | cons y l ih =>
     intro hn h1 h2
     simp only [keys, List.map_cons, List.nodup_cons] at hn
     rcases List.mem_cons.1 h1 with h1 | h1
     ·
      rcases List.mem_cons.1 h2 with h2 | h2
      ·
       rw [← h2] at h1; cases h1; rfl
      ·
       rw [← h1] at hn; exact absurd (List.mem_map_of_mem (f := (·.1)) h2) hn.1
     ·
      rcases List.mem_cons.1 h2 with h2 | h2
      ·
       rw [← h2] at hn; exact absurd (List.mem_map_of_mem (f := (·.1)) h1) hn.1
      ·
       exact ih hn.2 h1 h2
   exact e m hn hx h
  ·
   rintro rfl; exact hx
 by_cases h : x.2 = s <;> simp [this, h]
theorem dele_step (m : List (κ × Int)) (l : List κ) (k : κ) : dele k (m.filter fun x => x.1 ∉ l) = m.filter fun x => x.1 ∉ l ++ [k] := by
 simp only [dele, List.filter_filter]
 apply List.filter_congr
 intro x _
 simp only [List.mem_append, List.mem_singleton, decide_not, not_or, ne_eq, Bool.decide_and]
 by_cases h1 : x.1 = k <;> by_cases h2 : x.1 ∈ l <;> simp [h1, h2]

theorem asc_mset {s t : Int} {v : Value} : ∀ {m : List (Int × Value)}, asc t (mset s v m) = if t = s then some v else asc t m
 | [] => rfl
 | x :: m => by
  simp only [mset]
  by_cases h : s = x.1
  ·
   rw [if_pos h]
   simp only [asc]
   by_cases h2 : t = s
   ·
    simp [h2]
   ·
    simp [h2, show ¬ t = x.1 from fun e => h2 (e.trans h.symm)]
  ·
   rw [if_neg h]
   simp only [asc, asc_mset (m := m)]
   by_cases h2 : t = x.1
   ·
    have : ¬ t = s := fun e => h (e.symm.trans h2)
    rw [if_pos h2, if_neg this, if_pos h2]
   ·
    rw [if_neg h2, if_neg h2]
theorem asc_none {t : Int} : ∀ {m : List (Int × Value)}, t ∉ m.map (·.1) → asc t m = none
 | [], _ => rfl
 | x :: m, h => by
  simp only [List.map_cons, List.mem_cons, not_or] at h
  simp only [asc, if_neg h.1]; exact asc_none h.2
theorem asc_mdel {s t : Int} : ∀ {m : List (Int × Value)}, (m.map (·.1)).Nodup → asc t (mdel s m) = if t = s then none else asc t m
 | [], _ => by simp [mdel, asc]
 | x :: m, hn => by
  simp only [List.map_cons, List.nodup_cons] at hn
  simp only [mdel]
  by_cases h : s = x.1
  ·
   rw [if_pos h]
   simp only [asc]
   by_cases h2 : t = s
   ·
    rw [if_pos h2, asc_none (by rw [h2, h]; exact hn.1)]
   ·
    simp [h2, show ¬ t = x.1 from fun e => h2 (e.trans h.symm)]
  ·
   rw [if_neg h]
   simp only [asc, asc_mdel hn.2]
   by_cases h2 : t = x.1
   ·
    have : ¬ t = s := fun e => h (e.symm.trans h2)
    rw [if_pos h2, if_neg this, if_pos h2]
   ·
    rw [if_neg h2, if_neg h2]
theorem mset_keys {s : Int} {v : Value} : ∀ {m : List (Int × Value)}, ((mset s v m).map (·.1)) = if s ∈ m.map (·.1) then m.map (·.1) else m.map (·.1) ++ [s]
 | [] => rfl
 | x :: m => by
  simp only [mset]
  by_cases h : s = x.1
  ·
   simp [h]
  ·
   rw [if_neg h]
   simp only [List.map_cons, mset_keys (m := m), List.mem_cons, h, false_or]
   split <;> simp
theorem mset_nodup {s : Int} {v : Value} {m : List (Int × Value)} (h : (m.map (·.1)).Nodup) : ((mset s v m).map (·.1)).Nodup := by
 rw [mset_keys]
 split
 ·
  exact h
 ·
  rename_i hs
  rw [List.nodup_append]
  exact ⟨h, by simp, fun a ha b hb => by simp only [List.mem_cons, List.not_mem_nil, or_false] at hb; subst hb; exact fun e => hs (e ▸ ha)⟩
theorem mdel_sub {s : Int} : ∀ {m : List (Int × Value)}, List.Sublist (mdel s m) m
 | [] => List.Sublist.refl _
 | x :: m => by
  simp only [mdel]
  split
  ·
   exact List.sublist_cons_self _ _
  ·
   exact mdel_sub.cons_cons _
theorem mdel_nodup {s : Int} {m : List (Int × Value)} (h : (m.map (·.1)).Nodup) : ((mdel s m).map (·.1)).Nodup := (mdel_sub.map _).nodup h

structure HeldR (kc : κ → List Value) (E : TypeId) (sz : Nat) (w : World) (F : Nat → Prop) (hm : List (Int × Value)) (m : List (κ × Int)) : Prop where
 nodup : (hm.map (·.1)).Nodup
 row : ∀ s v, asc s hm = some v → w.ownsRow 0 E sz v (heldOf m s).length ((heldOf m s).flatMap kc) ∧ ∀ g, v.ownBlock = some g → F g
 non : ∀ s, asc s hm = none → heldOf m s = []
 sep : ∀ s s' v v' g, asc s hm = some v → asc s' hm = some v' → v.ownBlock = some g → v'.ownBlock = some g → s = s'

variable {kc : κ → List Value} {E : TypeId} {sz : Nat}
theorem HeldR.upd {F G : Nat → Prop} {w w' : World} {hm : List (Int × Value)} {m : List (κ × Int)} (h : HeldR kc E sz w F hm m) (hu : Upd G w w') (hFG : ∀ s v g, asc s hm = some v → v.ownBlock = some g → ¬ G g) : HeldR kc E sz w' F hm m :=
 ⟨h.nodup, fun s v hs => ⟨hu.row (h.row s v hs).1 (fun g hg => hFG s v g hs hg), (h.row s v hs).2⟩, h.non, h.sep⟩
theorem HeldR.mono {F G : Nat → Prop} {hm : List (Int × Value)} {m : List (κ × Int)} (h : HeldR kc E sz w F hm m) (hFG : ∀ b, F b → G b) : HeldR kc E sz w G hm m :=
 ⟨h.nodup, fun s v hs => ⟨(h.row s v hs).1, fun g hg => hFG g ((h.row s v hs).2 g hg)⟩, h.non, h.sep⟩
theorem heldR_nil (kc : κ → List Value) (E : TypeId) (sz : Nat) (w : World) (F : Nat → Prop) : HeldR kc E sz w F [] ([] : List (κ × Int)) :=
 ⟨by simp, (fun s v h => by cases h), fun s _ => rfl, (fun s s' v v' g h => by cases h)⟩
theorem HeldR.get {F : Nat → Prop} {hm : List (Int × Value)} {m : List (κ × Int)} (h : HeldR kc E sz w F hm m) (s : Int) : w.ownsRow 0 E sz ((asc s hm).getD (.slice none 0 0)) (heldOf m s).length ((heldOf m s).flatMap kc) := by
 cases hs : asc s hm with
 | none => rw [h.non s hs]; exact World.ownsRow_nil w _ E sz
 | some v => exact (h.row s v hs).1
theorem HeldR.add {F : Nat → Prop} {w w' : World} {hm : List (Int × Value)} {m : List (κ × Int)} (h : HeldR kc E sz w F hm m) (k : κ) (s : Int) (v' : Value)
  (hg : Upd (fun b => ((asc s hm).getD (.slice none 0 0)).ownBlock = some b) w w') (hown : w'.ownsRow 0 E sz v' ((heldOf m s).length + 1) ((heldOf m s).flatMap kc ++ kc k)) (hnear : ∀ g, v'.ownBlock = some g → ((asc s hm).getD (.slice none 0 0)).ownBlock = some g ∨ w.heap.size ≤ g) :
  HeldR kc E sz w' (fun b => F b ∨ v'.ownBlock = some b) (mset s v' hm) (m ++ [(k, s)]) where
 nodup := mset_nodup h.nodup
 row := fun t v ht => by
  rw [asc_mset] at ht
  split at ht
  ·
   rename_i e
   cases ht
   subst e
   rw [held_app, if_pos rfl]
   refine ⟨?_, fun g hg => .inr hg⟩
   simpa using hown
  ·
   rename_i e
   rw [held_app, if_neg (fun h => e h.symm), List.append_nil]
   refine ⟨hg.row (h.row t v ht).1 (fun g hv hr => ?_), fun g hg => .inl ((h.row t v ht).2 g hg)⟩
   cases hs : asc s hm with
   | none => rw [hs] at hr; cases hr
   | some u =>
    rw [hs] at hr
    exact e (h.sep t s v u g ht hs hv hr)
 non := fun t ht => by
  rw [asc_mset] at ht
  split at ht
  ·
   cases ht
  ·
   rename_i e
   rw [held_app, if_neg (fun h => e h.symm), List.append_nil]
   exact h.non t ht
 sep := fun t t' u u' g ht ht' hu hu' => by
  have key : ∀ t u, t ≠ s → asc t hm = some u → u.ownBlock = some g → v'.ownBlock = some g → False := by
   intro t u hne ht hu hv
   have hlt : g < w.heap.size := by
    rcases (h.row t u ht).1.2 with ⟨e, _⟩ | ⟨g', c, cur, e, _, hh, _⟩
    ·
     rw [e] at hu; cases hu
    ·
     rw [e] at hu; cases hu; exact (Array.getElem?_eq_some_iff.1 hh).1
   rcases hnear g hv with h1 | h1
   ·
    cases hs : asc s hm with
    | none => rw [hs] at h1; cases h1
    | some z => rw [hs] at h1; exact hne (h.sep t s u z g ht hs hu h1)
   ·
    omega
  rw [asc_mset] at ht ht'
  split at ht
  ·
   rename_i e
   split at ht'
   ·
    rename_i e'; rw [e, e']
   ·
    rename_i e'; cases ht; exact (key t' u' e' ht' hu' hu).elim
  ·
   rename_i e
   split at ht'
   ·
    cases ht'; exact (key t u e ht hu hu').elim
   ·
    exact h.sep t t' u u' g ht ht' hu hu'
theorem HeldR.del {F : Nat → Prop} {hm : List (Int × Value)} {m : List (κ × Int)} (h : HeldR kc E sz w F hm m) (s : Int) : HeldR kc E sz w F (mdel s hm) (rel s m) where
 nodup := mdel_nodup h.nodup
 row := fun t v ht => by
  rw [asc_mdel h.nodup] at ht
  split at ht
  ·
   cases ht
  ·
   rename_i e; rw [held_rel, if_neg e]; exact h.row t v ht
 non := fun t ht => by
  rw [asc_mdel h.nodup] at ht
  rw [held_rel]
  split at ht
  ·
   rename_i e; rw [if_pos e]
  ·
   rename_i e; rw [if_neg e]; exact h.non t ht
 sep := fun t t' u u' g ht ht' => by
  rw [asc_mdel h.nodup] at ht ht'
  split at ht
  ·
   cases ht
  ·
   split at ht'
   ·
    cases ht'
   ·
    exact h.sep t t' u u' g ht ht'

theorem HeldR.ne_map {F : Nat → Prop} {hm : List (Int × Value)} {m : List (κ × Int)} (h : HeldR kc E sz w F hm m) {s : Int} {g b : Nat} {es : Array MapEntry} {clk : Nat} (hb : w.heap[b]? = some (.map es clk)) (hg : ((asc s hm).getD (.slice none 0 0)).ownBlock = some g) : g ≠ b := by
 rintro rfl
 rcases (h.get s).2 with ⟨e, _⟩ | ⟨g', c, cur, e, _, hh, _⟩
 ·
  rw [e] at hg; cases hg
 ·
  rw [e] at hg; cases hg; rw [hb] at hh; cases hh
theorem HeldR.ne_cells {F : Nat → Prop} {hm : List (Int × Value)} {m : List (κ × Int)} (h : HeldR kc E sz w F hm m) {s : Int} {g b : Nat} {c : Array Value} {t : TypeId} (ht : t ≠ E) (hb : w.heap[b]? = some (.cells c t)) (hg : ((asc s hm).getD (.slice none 0 0)).ownBlock = some g) : g ≠ b := by
 rintro rfl
 rcases (h.get s).2 with ⟨e, _⟩ | ⟨g', c, cur, e, _, hh, _⟩
 ·
  rw [e] at hg; cases hg
 ·
  rw [e] at hg; cases hg; rw [hb] at hh; cases hh; exact ht rfl
theorem HeldR.own_lt {F : Nat → Prop} {hm : List (Int × Value)} {m : List (κ × Int)} (h : HeldR kc E sz w F hm m) {s : Int} {g : Nat} (hg : ((asc s hm).getD (.slice none 0 0)).ownBlock = some g) : g < w.heap.size := by
 rcases (h.get s).2 with ⟨e, _⟩ | ⟨g', c, cur, e, _, hh, _⟩
 ·
  rw [e] at hg; cases hg
 ·
  rw [e] at hg; cases hg; exact (Array.getElem?_eq_some_iff.1 hh).1
theorem HeldR.own_F {F : Nat → Prop} {hm : List (Int × Value)} {m : List (κ × Int)} (h : HeldR kc E sz w F hm m) {s : Int} {g : Nat} (hg : ((asc s hm).getD (.slice none 0 0)).ownBlock = some g) : F g := by
 cases hs : asc s hm with
 | none => rw [hs] at hg; cases hg
 | some v => rw [hs] at hg; exact (h.row s v hs).2 g hg

structure TabAt (enc : κ → Value) (kc : κ → List Value) (E : TypeId) (sz : Nat) (w : World) (o h : Value) (m : List (κ × Int)) (F : Nat → Prop) : Prop where
 nodup : (keys m).Nodup
 bound : ∀ b, F b → b < w.heap.size
 is : (o = .map none ∧ h = .map none ∧ m = []) ∨ ∃ bo bh hm, o = .map (some bo) ∧ h = .map (some bh) ∧ bo ≠ bh ∧ F bo ∧ F bh ∧ MapB enc w bo (ownM m) ∧ MapB encI w bh hm ∧ HeldR kc E sz w F hm m
theorem TabAt.upd {enc : κ → Value} {F G : Nat → Prop} {w w' : World} {o h : Value} {m : List (κ × Int)} (ht : TabAt enc kc E sz w o h m F) (hu : Upd G w w') (hFG : ∀ b, F b → ¬ G b) : TabAt enc kc E sz w' o h m F := by
 refine ⟨ht.nodup, fun b hb => Nat.lt_of_lt_of_le (ht.bound b hb) hu.size, ?_⟩
 rcases ht.is with h1 | ⟨bo, bh, hm, e1, e2, h3, h4, h5, h6, h7, h8⟩
 ·
  exact .inl h1
 ·
  exact .inr ⟨bo, bh, hm, e1, e2, h3, h4, h5, h6.upd hu (hFG _ h4), h7.upd hu (hFG _ h5), h8.upd hu (fun s v g hs hg => hFG g ((h8.row s v hs).2 g hg))⟩
theorem TabAt.stay {enc : κ → Value} {F : Nat → Prop} {w w' : World} {o h : Value} {m : List (κ × Int)} (hb : Below w.heap.size w w') (ht : TabAt enc kc E sz w o h m F) : TabAt enc kc E sz w' o h m F := ht.upd (G := fun _ => False) (Upd.of_below hb) (fun _ _ h => h)
theorem TabAt.len {P : Program} {T k e : TypeId} (hT : P.underlying T = some (.map k e)) {enc : κ → Value} {F : Nat → Prop} {o h : Value} {m : List (κ × Int)} (ht : TabAt enc kc E sz w o h m F) (ty : TypeId) : (Builtin.len_ #[T] ty #[o]).run P w = .ok (.int .i64 m.length) w := by
 rcases ht.is with ⟨rfl, _, rfl⟩ | ⟨bo, bh, hm, rfl, _, _, _, _, hM, _⟩
 ·
  exact run_len_nil hT w ty
 ·
  rw [run_len_map hT hM ty]; simp [ownM]
theorem tab_nil (enc : κ → Value) (kc : κ → List Value) (E : TypeId) (sz : Nat) (w : World) : TabAt enc kc E sz w (.map none) (.map none) [] (fun _ => False) := ⟨by simp [keys], fun _ h => h.elim, .inl ⟨rfl, rfl, rfl⟩⟩
end

end Go.Proofs.YtbhglemolpfnkaaGreatDoor
