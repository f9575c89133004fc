/- Tables of integers in memory, as the laws write them down, in drawn regions. No function in sight. -/
import Derived.Test.YtockaipodnapjaaGreatDoorOwnH
namespace Go.Proofs.YtockaipodnapjaaGreatDoor
open Go.RowKit
set_option linter.unusedVariables false
set_option maxRecDepth 100000

def ptrTo (c : Value) : Pred := fun v w => ∃ b o, v = .pointer (some ⟨b, o, none⟩) ∧ w.cell? ⟨b, o, none⟩ = some c
theorem ptrTo_lasts (c : Value) : Lasts (ptrTo c) := by
  rintro v w w' ⟨b, o, rfl, hc⟩ hbl
  exact ⟨b, o, rfl, keep hbl hc⟩
def rowOf (n : Nat) (cs : Array Value) (t : TypeId) : Pred := fun v w => ∃ b, v = .slice (some ⟨b, 0, none⟩) n n ∧ w.heap[b]? = some (.cells cs t)
theorem rowOf_lasts (n : Nat) (cs : Array Value) (t : TypeId) : Lasts (rowOf n cs t) := by
  rintro v w w' ⟨b, rfl, hb⟩ hbl
  exact ⟨b, rfl, (hbl.block b (Array.getElem?_eq_some_iff.1 hb).1).trans hb⟩
theorem new_block (w : World) (o : Obj) : (w.alloc o).heap[w.heap.size]? = some o := by show (w.heap.push _)[w.heap.size]? = _; simp
def tabI (xs : List Int) (i : Int) : Int := xs.getD i.toNat 0
theorem tabI_cell (xs : List Int) {w : World} {b : Nat} {t : TypeId} (h : w.heap[b]? = some (.cells (xs.map (Value.int .i64)).toArray t)) (i : Int) (h0 : 0 ≤ i) (h1 : i < xs.length) : w.cell? ⟨b, i.toNat, none⟩ = some (.int .i64 (tabI xs i)) := by
  have hlt : i.toNat < xs.length := by omega
  simp [World.cell?, h, tabI, List.getD_eq_getElem?_getD, List.getElem?_eq_getElem hlt]
theorem tabI_mem {xs : List Int} {i : Int} (h0 : 0 ≤ i) (h1 : i < xs.length) : tabI xs i ∈ xs := by
  have hlt : i.toNat < xs.length := by omega
  simp [tabI, List.getD_eq_getElem?_getD, List.getElem?_eq_getElem hlt]
def nblk (B : Nat) (o : Obj) : Pred := fun v w => ∃ b, v = .pointer (some ⟨b, 0, none⟩) ∧ B ≤ b ∧ w.heap[b]? = some o
theorem nblk_lasts (B : Nat) (o : Obj) : Lasts (nblk B o) := by
  rintro v w w' ⟨b, rfl, hB, hb⟩ hbl
  exact ⟨b, rfl, hB, (hbl.block b (Array.getElem?_eq_some_iff.1 hb).1).trans hb⟩
/-- A slice of one new element. -/
def sblk (B : Nat) (o : Obj) : Pred := fun v w => ∃ b, v = .slice (some ⟨b, 0, none⟩) 1 1 ∧ B ≤ b ∧ w.heap[b]? = some o
theorem sblk_lasts (B : Nat) (o : Obj) : Lasts (sblk B o) := by
  rintro v w w' ⟨b, rfl, hB, hb⟩ hbl
  exact ⟨b, rfl, hB, (hbl.block b (Array.getElem?_eq_some_iff.1 hb).1).trans hb⟩

end Go.Proofs.YtockaipodnapjaaGreatDoor
