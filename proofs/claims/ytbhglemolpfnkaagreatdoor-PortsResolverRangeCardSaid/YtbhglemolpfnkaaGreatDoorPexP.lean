/- The plain law of the exhaustion: sixty-four ports, each once. -/
import Derived.Test.YtbhglemolpfnkaaGreatDoorPlw
set_option linter.unusedVariables false
set_option maxRecDepth 100000
set_option maxHeartbeats 32000000
namespace Go.Proofs.YtbhglemolpfnkaaGreatDoor
open Go.RowKit Go.Sort

def exP (sd : Int) (i : Nat) : Int := 49152 + (sd + i) % 64
def exB (sd pr : Int) (k : Nat) : List (Bk × Int) := (List.range k).map fun i => (⟨pr, exP sd i⟩, (i : Int))
def exSt (sd pr : Int) (k : Nat) : PSt := ⟨sd, k, exB sd pr k, []⟩
theorem exP_bd (sd : Int) (i : Nat) : 49152 ≤ exP sd i ∧ exP sd i < 49216 := by unfold exP; omega
theorem exP_inj {sd : Int} {i j : Nat} (hi : i < 64) (hj : j < 64) (h : exP sd i = exP sd j) : i = j := by unfold exP at h; omega
theorem exB_succ (sd pr : Int) (k : Nat) : exB sd pr (k + 1) = exB sd pr k ++ [(⟨pr, exP sd k⟩, (k : Int))] := by simp [exB, List.range_succ]
theorem exB_len (sd pr : Int) (k : Nat) : (exB sd pr k).length = k := by simp [exB]
theorem exB_mem {sd pr : Int} {k : Nat} {x : Bk} {s : Int} : (x, s) ∈ exB sd pr k ↔ ∃ i : Nat, i < k ∧ x = ⟨pr, exP sd i⟩ ∧ s = i := by
 simp only [exB, List.mem_map, List.mem_range, Prod.mk.injEq]
 constructor
 ·
  rintro ⟨i, h1, h2, h3⟩; exact ⟨i, h1, h2.symm, h3.symm⟩
 ·
  rintro ⟨i, h1, h2, h3⟩; exact ⟨i, h1, h2.symm, h3.symm⟩
theorem exB_look {sd pr po : Int} {k : Nat} (h : ∀ i : Nat, i < k → exP sd i ≠ po) : look ⟨pr, po⟩ (exB sd pr k) = none := by
 rw [look_none]
 intro hm
 obtain ⟨⟨x, s⟩, hx, e⟩ := List.mem_map.1 hm
 obtain ⟨i, h1, h2, _⟩ := exB_mem.1 hx
 simp only at e
 rw [h2, Bk.mk.injEq] at e
 exact h i h1 e.2
theorem exB_held {sd pr s : Int} {k : Nat} (h : ∀ i : Nat, i < k → (i : Int) ≠ s) : heldOf (exB sd pr k) s = [] := by
 rw [List.eq_nil_iff_forall_not_mem]
 intro x hx
 obtain ⟨i, h1, _, h3⟩ := exB_mem.1 (held_mem.1 hx)
 exact h i h1 h3.symm
theorem free_nil {st : PSt} (hJ : st.J = []) (pr po : Int) : freeP st pr po = !(look ⟨pr, po⟩ st.B).isSome := by
 unfold freeP; rw [hJ]; simp [cntP]
theorem ex_step {sd pr : Int} {k : Nat} (hk : k < 64) (hv : vpr pr = true) : anyR (exSt sd pr k) pr k = (exP sd k, 0, exSt sd pr (k + 1)) := by
 have hb : bindOf (exSt sd pr k).B k = ⟨0, 0⟩ := by
  unfold bindOf exSt; simp only
  rw [exB_held (fun i hi => by omega)]; rfl
 have hf : firstP (exSt sd pr k) pr = some (exP sd k) := by
  unfold firstP
  rw [find_range_some (j := 0) (by decide) ?_ (fun i hi => by omega)]
  ·
   simp [anyP, exSt, exP]
  ·
   rw [free_nil rfl]
   have e : anyP (exSt sd pr k) ((0 : Nat) : Int) = exP sd k := by simp [anyP, exSt, exP]
   rw [e]
   show (!(look ⟨pr, exP sd k⟩ (exB sd pr k)).isSome) = true
   rw [exB_look (fun i hi he => by have := exP_inj (by omega) hk he; omega)]; rfl
 unfold anyR
 rw [if_pos hv, hb, hf]
 simp only [bne_self_eq_false, Bool.false_eq_true, if_false]
 unfold exSt addB
 rw [exB_succ]
 simp
end Go.Proofs.YtbhglemolpfnkaaGreatDoor
