/- A machine of symbolic values: sane() as a contract; from the package variables to a call. -/
import Derived.Test.YtockaipodnapjaaGreatDoorVs
namespace Go.Proofs.YtockaipodnapjaaGreatDoor
open Go Go.RowKit
set_option linter.unusedVariables false
set_option maxRecDepth 100000
def intsF : List V → List Int → Bool
  | [], [] => true
  | .int false .i64 n :: l, m :: k => (match ieq n m with
    | true => intsF l k
    | false => false)
  | _, _ => false
theorem intsF_eq : ∀ {l : List V} {k : List Int}, intsF l k = true → l = k.map fun n => .int false .i64 n
  | l, k, h => by
    unfold intsF at h
    split at h
    · rfl
    · split at h
      · rename_i hn
        rw [ieq_dec] at hn
        have := of_decide_eq_true hn
        subst this
        simp only [List.map_cons]
        rw [← intsF_eq h]
      · cases h
    · cases h
def triN : List Int := triS.map fun v => match v with
  | .int _ _ n => n
  | _ => 0
def chk0 (p : Pl Nat) : Bool := match p with
  | .glb 0 [.lit (.iface 233 (.agg ⟨[.pointer (some ⟨4, 96, none⟩)]⟩))] 0 => true
  | _ => false
def chk1 (p : Pl Nat) : Bool := match p with
  | .glb 1 [.ifc 400 (.nm 3)] 0 => true
  | _ => false
def chk2 (p : Pl Nat) : Bool := match p with
  | .glb 2 l 0 => intsF l triN
  | _ => false
def chk3 (p : Pl Nat) : Bool := match p with
  | .none => true
  | _ => false
def chkS (i : Nat) (p : Pl Nat) : Bool := match i with
  | 0 => chk0 p
  | 1 => chk1 p
  | 2 => chk2 p
  | _ => chk3 p
theorem chkS_ok (i : Nat) (p : Pl Nat) (hi : i < 4) (h : chkS i p = true) : p = Mget MS i := by
  match i, hi with
  | 0, _ =>
    have h : chk0 p = true := h
    unfold chk0 at h
    split at h
    · rfl
    · cases h
  | 1, _ =>
    have h : chk1 p = true := h
    unfold chk1 at h
    split at h
    · rfl
    · cases h
  | 2, _ =>
    have h : chk2 p = true := h
    unfold chk2 at h
    split at h
    · rw [intsF_eq h]
      rfl
    · cases h
  | 3, _ =>
    have h : chk3 p = true := h
    unfold chk3 at h
    split at h
    · rfl
    · cases h
theorem MS_rest (i : Nat) (h : 4 ≤ i) : Mget MS i = .none := by
  unfold Mget
  rw [List.getD_eq_getElem?_getD, List.getElem?_eq_none (by exact h)]
  rfl
theorem MS_sc (i : Nat) : (Mget MS i).sc (fun j => j < 4) := by
  match i with
  | 0 => exact ⟨trivial, trivial⟩
  | 1 => exact ⟨(by show 3 < 4; omega), trivial⟩
  | 2 => exact clL_sc _ rfl
  | 3 => trivial
  | n + 4 => rw [MS_rest _ (by omega)]; trivial
def saneC (args : List V) : T Nat := clsC chkS (.bool false true) 4 args
theorem saneC_ok (args : List V) : CallOK arS Tryz.prog 10 args (saneC args) :=
  clsC_ok entr tblN_ok (MS := MS) (len := 4) (tr := trM 0 MS .z) (tri_of MS (by decide)) (by decide) chkS_ok MS_rest MS_sc rfl (Z := isT) (fun u hu ρ => by
    unfold isT at hu
    split at hu
    · subst hu; rfl
    · cases hu) sane_run args
end Go.Proofs.YtockaipodnapjaaGreatDoor
namespace Go.Proofs.YtockaipodnapjaaGreatDoor
open Go Go.RowKit
set_option linter.unusedVariables false
set_option maxRecDepth 100000
theorem obj_of {w : World} {g i : Nat} {v : Value} (h : w.cell? ⟨g, i, none⟩ = some v) : ∃ a t f, w.heap[g]? = some (.cells a t f) := by
  simp only [World.cell?] at h
  split at h
  · rename_i a t f e; exact ⟨_, _, _, e⟩
  · cases h
theorem cellO_of {w : World} {g i : Nat} {v : Value} {a : Array Value} {t : TypeId} {f : Nat × Nat} (h : w.cell? ⟨g, i, none⟩ = some v) (ho : w.heap[g]? = some (.cells a t f)) : cellO (.cells a t f) i = some v := by
  simp only [World.cell?, ho] at h
  exact h
structure Glbs (w : World) : Prop where
  k0 : w.cell? ⟨0, 0, none⟩ = some (.iface 233 (.agg ⟨[.pointer (some ⟨4, 96, none⟩)]⟩))
  k1 : ∃ v, w.cell? ⟨1, 0, none⟩ = some (.iface 400 v)
  k2 : ∀ j v, (denL ρ0 triS)[j]? = some v → w.cell? ⟨2, j, none⟩ = some v
end Go.Proofs.YtockaipodnapjaaGreatDoor
namespace Go.Proofs.YtockaipodnapjaaGreatDoor
open Go Go.RowKit
set_option linter.unusedVariables false
set_option maxRecDepth 100000
def pickF (a n : Int) : Int := Int.tmod (match ilt a 0 with | true => Int.neg (Int.add a 1) | false => a) n
theorem pickF_rg (a : Int) {n : Int} (hn : 0 < n) : 0 ≤ pickF a n ∧ pickF a n < n := by
  unfold pickF
  have h0 : 0 ≤ (match ilt a 0 with | true => Int.neg (Int.add a 1) | false => a) := by
    rw [ilt_dec]
    by_cases h : a < 0
    · rw [decide_eq_true h]
      show 0 ≤ -(a + 1)
      omega
    · rw [decide_eq_false h]
      show 0 ≤ a
      omega
  exact ⟨Int.tmod_nonneg _ h0, Int.tmod_lt_of_pos _ hn⟩
theorem pk_run0 (a n : Int) : runD Tryz.prog kofS tb0 100 13 [.int true .i64 a, .int true .i64 n] [false] = some ([(!ieq n 0, true), (ilt a 0, false)], [.int true .i64 (Int.tmod a n)]) := by kernel_rfl
theorem pk_run1 (a n : Int) : runD Tryz.prog kofS tb0 100 13 [.int true .i64 a, .int true .i64 n] [true] = some ([(!ieq n 0, true), (inR (Int.neg (Int.add a 1)), true), (inR (Int.add a 1), true), (ilt a 0, true)], [.int true .i64 (Int.tmod (Int.neg (Int.add a 1)) n)]) := by kernel_rfl
theorem pk_hit (a n : Int) (w : World) (ha : inR a = true) (hn : ilt 0 n = true) : Calls Tryz.prog 13 #[.int .i64 a, .int .i64 n] w fun e w' => e = .returned (.int .i64 (pickF a n)) ∧ Below w.heap.size w w' := by
  rw [inR_iff] at ha
  rw [ilt_dec] at hn
  have hn := of_decide_eq_true hn
  unfold pickF
  cases h : ilt a 0 with
  | true =>
    have h1 := h
    rw [ilt_dec] at h1
    have h1 := of_decide_eq_true h1
    refine vm_data (ar := arW) (args := [.int true .i64 a, .int true .i64 n]) entr noT_ok rfl rfl (pk_run1 a n) ?_ w
    refine okO_cons (nieq_t (by omega)) (okO_cons (inR_t ?_ ?_) (okO_cons (inR_t ?_ ?_) (okO_cons h okO_nil)))
    · show _ ≤ -(a + 1); omega
    · show -(a + 1) ≤ _; omega
    · show _ ≤ a + 1; omega
    · show a + 1 ≤ _; omega
  | false =>
    refine vm_data (ar := arW) (args := [.int true .i64 a, .int true .i64 n]) entr noT_ok rfl rfl (pk_run0 a n) ?_ w
    exact okO_cons (nieq_t (by omega)) (okO_cons h okO_nil)
def kofX (t : TypeId) : Option (Nat × Bool) := match kofS t with
  | some (0, s) => some (0, s)
  | some (k, _) => some (k, true)
  | none => none
theorem entrX : Entr Tryz.prog kofX where
  mixed := entr.mixed
  name := entr.name
  keys := by
    intro t kd s h
    unfold kofX at h
    split at h
    · rename_i s0 h0
      cases h
      exact keyOK t 0 _ h0
    · rename_i k s0 _ h0
      cases h
      exact keyOK t _ _ h0
    · cases h
end Go.Proofs.YtockaipodnapjaaGreatDoor
