/- Plain data of package route: interfaces and routes as records of integers, and how a slice of them lies in memory. -/
import Derived.Test.YtkhhmoijjidbbaaBase
namespace Go.Proofs.Ytkhhmoijjidbbaa
open Go.RowKit Go.Sort

structure If where
  mac : Int
  addr : Int
  na : Int
  nb : Int
  mtu : Int

structure Rt where
  na : Int
  nb : Int
  via : Int
  face : Int

def ifAt (fs : List If) (i : Nat) : If := fs.getD i ⟨0, 0, 0, 0, 0⟩
def rtAt (rs : List Rt) (i : Nat) : Rt := rs.getD i ⟨0, 0, 0, 0⟩

/-- The five cells of one interface at a place. -/
def IfCells (w : World) (b o : Nat) (x : If) : Prop :=
  w.cell? ⟨b, o, none⟩ = some (.int .i64 x.mac) ∧ w.cell? ⟨b, o + 1, none⟩ = some (.int .i64 x.addr) ∧ w.cell? ⟨b, o + 2, none⟩ = some (.int .i64 x.na) ∧
    w.cell? ⟨b, o + 3, none⟩ = some (.int .i64 x.nb) ∧ w.cell? ⟨b, o + 4, none⟩ = some (.int .i64 x.mtu)
def RtCells (w : World) (b o : Nat) (x : Rt) : Prop :=
  w.cell? ⟨b, o, none⟩ = some (.int .i64 x.na) ∧ w.cell? ⟨b, o + 1, none⟩ = some (.int .i64 x.nb) ∧ w.cell? ⟨b, o + 2, none⟩ = some (.int .i64 x.via) ∧
    w.cell? ⟨b, o + 3, none⟩ = some (.int .i64 x.face)

/-- A slice value that reads as a list of interfaces (at most 1000 of them). -/
def RdI (w : World) (v : Value) (fs : List If) : Prop :=
  ∃ a cap, v = .slice a fs.length cap ∧ fs.length ≤ cap ∧ fs.length ≤ 1000 ∧ (fs.length ≠ 0 → ∃ b o, a = some ⟨b, o, none⟩ ∧ ∀ i, i < fs.length → IfCells w b (o + i * 5) (ifAt fs i))
def RdR (w : World) (v : Value) (rs : List Rt) : Prop :=
  ∃ a cap, v = .slice a rs.length cap ∧ rs.length ≤ cap ∧ rs.length ≤ 1000 ∧ (rs.length ≠ 0 → ∃ b o, a = some ⟨b, o, none⟩ ∧ ∀ i, i < rs.length → RtCells w b (o + i * 4) (rtAt rs i))

theorem IfCells.stay {w w' : World} {b o : Nat} {x : If} (hb : Below w.heap.size w w') (h : IfCells w b o x) : IfCells w' b o x := by
  obtain ⟨h0, h1, h2, h3, h4⟩ := h
  exact ⟨keep hb h0, keep hb h1, keep hb h2, keep hb h3, keep hb h4⟩
theorem RtCells.stay {w w' : World} {b o : Nat} {x : Rt} (hb : Below w.heap.size w w') (h : RtCells w b o x) : RtCells w' b o x := by
  obtain ⟨h0, h1, h2, h3⟩ := h
  exact ⟨keep hb h0, keep hb h1, keep hb h2, keep hb h3⟩
theorem RdI.stay {w w' : World} {v : Value} {fs : List If} (hb : Below w.heap.size w w') (h : RdI w v fs) : RdI w' v fs := by
  obtain ⟨a, cap, rfl, h1, h2, h3⟩ := h
  refine ⟨a, cap, rfl, h1, h2, fun hn => ?_⟩
  obtain ⟨b, o, rfl, hc⟩ := h3 hn
  exact ⟨b, o, rfl, fun i hi => (hc i hi).stay hb⟩
theorem RdR.stay {w w' : World} {v : Value} {fs : List Rt} (hb : Below w.heap.size w w') (h : RdR w v fs) : RdR w' v fs := by
  obtain ⟨a, cap, rfl, h1, h2, h3⟩ := h
  refine ⟨a, cap, rfl, h1, h2, fun hn => ?_⟩
  obtain ⟨b, o, rfl, hc⟩ := h3 hn
  exact ⟨b, o, rfl, fun i hi => (hc i hi).stay hb⟩

/-- The first interface with that address. -/
def locIx (fs : List If) (x : Int) : Option Nat := fs.findIdx? (fun f => f.addr == x)
def locI (fs : List If) (x : Int) : Int := match locIx fs x with | some i => (i : Int) | none => 0
def locB (fs : List If) (x : Int) : Bool := (locIx fs x).isSome

theorem ifAt_eq (fs : List If) (i : Nat) (h : i < fs.length) : ifAt fs i = fs[i] := by simp [ifAt, h]
theorem rtAt_eq (fs : List Rt) (i : Nat) (h : i < fs.length) : rtAt fs i = fs[i] := by simp [rtAt, h]

theorem loc_found (fs : List If) (x : Int) (k : Nat) (hk : k < fs.length) (hno : ∀ j, j < k → (ifAt fs j).addr ≠ x) (hy : (ifAt fs k).addr = x) : locIx fs x = some k := by
  unfold locIx
  rw [List.findIdx?_eq_some_iff_getElem]
  refine ⟨hk, by rw [← ifAt_eq fs k hk]; simpa using hy, fun j hj => ?_⟩
  rw [← ifAt_eq fs j (by omega)]
  simpa using hno j hj
theorem loc_none (fs : List If) (x : Int) (hno : ∀ j, j < fs.length → (ifAt fs j).addr ≠ x) : locIx fs x = none := by
  unfold locIx
  rw [List.findIdx?_eq_none_iff]
  intro f hf
  obtain ⟨j, hj, rfl⟩ := List.mem_iff_getElem.1 hf
  rw [← ifAt_eq fs j hj]
  simpa using hno j hj

end Go.Proofs.Ytkhhmoijjidbbaa
