/- Worlds in which only the blocks of a set have changed, and new ones have come. No program in sight. -/
import Derived.Test.YthdnonoheochhaaGreatDoorRow
namespace Go.Proofs.YthdnonoheochhaaGreatDoor
open Go.RowKit
structure Upd (F : Nat → Prop) (w w' : World) : Prop where
  os : w'.os = w.os
  tape : w'.tape = w.tape
  output : w'.output = w.output
  size : w.heap.size ≤ w'.heap.size
  block : ∀ k, k < w.heap.size → ¬ F k → w'.heap[k]? = w.heap[k]?
theorem Upd.refl (F : Nat → Prop) (w : World) : Upd F w w := ⟨rfl, rfl, rfl, Nat.le_refl _, fun _ _ _ => rfl⟩
theorem Upd.trans {F : Nat → Prop} {a b c : World} (h : Upd F a b) (k : Upd F b c) : Upd F a c :=
  ⟨k.os.trans h.os, k.tape.trans h.tape, k.output.trans h.output, Nat.le_trans h.size k.size, fun i hi hF => (k.block i (Nat.lt_of_lt_of_le hi h.size) hF).trans (h.block i hi hF)⟩
theorem Upd.mono {F G : Nat → Prop} {w w' : World} (h : Upd F w w') (hFG : ∀ b, b < w.heap.size → F b → G b) : Upd G w w' :=
  ⟨h.os, h.tape, h.output, h.size, fun k hk hG => h.block k hk fun hF => hG (hFG k hk hF)⟩
theorem Upd.then {F G : Nat → Prop} {a b c : World} (h : Upd F a b) (k : Upd G b c) (hG : ∀ x, x < a.heap.size → G x → F x) : Upd F a c :=
  ⟨k.os.trans h.os, k.tape.trans h.tape, k.output.trans h.output, Nat.le_trans h.size k.size, fun i hi hF => (k.block i (Nat.lt_of_lt_of_le hi h.size) fun hg => hF (hG i hi hg)).trans (h.block i hi hF)⟩
theorem Upd.of_below {F : Nat → Prop} {w w' : World} (h : Below w.heap.size w w') : Upd F w w' := ⟨h.os, h.tape, h.output, h.size, fun k hk _ => h.block k hk⟩
theorem Upd.below {F : Nat → Prop} {B : Nat} {w w' : World} (h : Upd F w w') (hB : B ≤ w.heap.size) (hF : ∀ b, F b → B ≤ b) : Below B w w' :=
  ⟨h.os, h.tape, h.output, h.size, fun k hk => h.block k (by omega) fun hf => by have := hF k hf; omega⟩
theorem Upd.none {w w' : World} (h : Upd (fun _ => False) w w') : Below w.heap.size w w' := h.below (Nat.le_refl _) (fun _ h => h.elim)
theorem Upd.thenB {F : Nat → Prop} {a b c : World} (h : Upd F a b) (k : Below b.heap.size b c) : Upd F a c := h.trans (Upd.of_below k)
theorem Upd.setCell {F : Nat → Prop} {a w : World} (h : Upd F a w) {p : Addr} (hp : p.block < a.heap.size → F p.block) (u : Value) : Upd F a (w.setCell p u) :=
  h.then (G := fun b => b = p.block) ⟨rfl, rfl, rfl, by simp [World.setCell], fun k _ hk => Below.heap_setCell _ _ _ _ hk⟩ (fun x hx e => by subst e; exact hp hx)
theorem Upd.alloc {F : Nat → Prop} {a w : World} (h : Upd F a w) (o : Obj) : Upd F a (w.alloc o) := h.thenB ((Below.refl _ _).alloc (Nat.le_refl _) o)
theorem Upd.keep {F : Nat → Prop} {w w' : World} {a : Addr} {v : Value} (h : Upd F w w') (hF : ¬ F a.block) (hc : w.cell? a = some v) : w'.cell? a = some v :=
  (World.cell?_of_block (h.block a.block (block_lt_of_cell hc) hF)).trans hc
theorem Upd.frz {F : Nat → Prop} {w w' : World} {a : Addr} {v : Value} (h : Upd F w w') (hF : ¬ F a.block) (hc : w.cell? a = some v) (hf : w.frozen? a = false) : w'.frozen? a = false :=
  (World.frozen?_of_block (h.block a.block (block_lt_of_cell hc) hF)).trans hf
theorem Upd.row {F : Nat → Prop} {w w' : World} {base : Nat} {e : TypeId} {size : Nat} {v : Value} {n : Nat} {xs : List Value} (h : Upd F w w') (ho : w.ownsRow base e size v n xs) (hF : ∀ g, v.ownBlock = some g → ¬ F g) : w'.ownsRow base e size v n xs := by
  obtain ⟨h1, h2⟩ := ho
  refine ⟨h1, ?_⟩
  rcases h2 with h2 | ⟨g, cap, cur, hv, hg, hh, r⟩
  · exact .inl h2
  · exact .inr ⟨g, cap, cur, hv, hg, (h.block g (Array.getElem?_eq_some_iff.1 hh).1 (hF g (by rw [hv]; rfl))).trans hh, r⟩
theorem below_one (w : World) (o : Obj) : Below w.heap.size w (w.alloc o) := (Below.refl _ _).alloc (Nat.le_refl _) o
theorem frz {w w' : World} {a : Addr} {v : Value} (hb : Below w.heap.size w w') (h : w.cell? a = some v) (hf : w.frozen? a = false) : w'.frozen? a = false := by
  rw [hb.frozen (block_lt_of_cell h)]; exact hf
end Go.Proofs.YthdnonoheochhaaGreatDoor
