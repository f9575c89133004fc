/- The plain law of the exhaustion: sixty-four ports, each once. -/
import Derived.Test.YtjngfhgcifhioaaPlw
namespace Go.Proofs.Ytjngfhgcifhioaa
open Go.RowKit Go.Sort
set_option linter.unusedVariables false
set_option maxRecDepth 100000

theorem row_slice1 {w : World} {base E sz n : Nat} {v : Value} {xs : List Value} (h : w.ownsRow base E sz v n xs) : ∃ a c, v = .slice a n c := by
  rcases h.2 with ⟨e, hn⟩ | ⟨g, c, _, e, _⟩
  · exact ⟨none, 0, by rw [e, hn]⟩
  · exact ⟨_, _, e⟩
theorem row_ne {w : World} {base E sz n : Nat} {v : Value} {xs : List Value} (h : w.ownsRow base E sz v n xs) {g b : Nat} (hg : v.ownBlock = some g) {c : Array Value} {t : TypeId} (ht : t ≠ E) (hb : w.heap[b]? = some (.cells c t)) : g ≠ b := by
  rintro rfl
  rcases h.2 with ⟨e, _⟩ | ⟨g', c', cur, e, _, hh, _⟩
  · rw [e] at hg; cases hg
  · rw [e] at hg; cases hg; rw [hb] at hh; cases hh; exact ht rfl
theorem row_base {w : World} {base E sz n : Nat} {v : Value} {xs : List Value} (h : w.ownsRow base E sz v n xs) {g : Nat} (hg : v.ownBlock = some g) : base ≤ g := by
  rcases h.2 with ⟨e, _⟩ | ⟨g', c', cur, e, hb, _⟩
  · rw [e] at hg; cases hg
  · rw [e] at hg; cases hg; exact hb

def exP (sd : Int) (i : Nat) : Int := 49152 + (sd + i) % 64
def exB (sd pr : Int) (k : Nat) : List (Bk × Int) := (List.range k).map fun i => (⟨pr, exP sd i⟩, (i : Int))
def exSt (sd pr : Int) (k : Nat) : PSt := ⟨sd, k, exB sd pr k, []⟩
theorem exP_bd (sd : Int) (i : Nat) : 49152 ≤ exP sd i ∧ exP sd i < 49216 := by unfold exP; omega
theorem exP_inj {sd : Int} {i j : Nat} (hi : i < 64) (hj : j < 64) (h : exP sd i = exP sd j) : i = j := by unfold exP at h; omega
theorem exB_succ (sd pr : Int) (k : Nat) : exB sd pr (k + 1) = exB sd pr k ++ [(⟨pr, exP sd k⟩, (k : Int))] := by simp [exB, List.range_succ]
theorem exB_len (sd pr : Int) (k : Nat) : (exB sd pr k).length = k := by simp [exB]
theorem exB_mem {sd pr : Int} {k : Nat} {x : Bk} {s : Int} : (x, s) ∈ exB sd pr k ↔ ∃ i : Nat, i < k ∧ x = ⟨pr, exP sd i⟩ ∧ s = i := by
  simp only [exB, List.mem_map, List.mem_range, Prod.mk.injEq]
  constructor
  · rintro ⟨i, h1, h2, h3⟩; exact ⟨i, h1, h2.symm, h3.symm⟩
  · rintro ⟨i, h1, h2, h3⟩; exact ⟨i, h1, h2.symm, h3.symm⟩
theorem exB_look {sd pr po : Int} {k : Nat} (h : ∀ i : Nat, i < k → exP sd i ≠ po) : look ⟨pr, po⟩ (exB sd pr k) = none := by
  rw [look_none]
  intro hm
  obtain ⟨⟨x, s⟩, hx, e⟩ := List.mem_map.1 hm
  obtain ⟨i, h1, h2, _⟩ := exB_mem.1 hx
  simp only at e
  rw [h2, Bk.mk.injEq] at e
  exact h i h1 e.2
theorem exB_has {sd pr : Int} {k i : Nat} (h : i < k) : (look ⟨pr, exP sd i⟩ (exB sd pr k)).isSome = true := by
  rw [look_isSome]
  simp only [decide_eq_true_eq]
  exact List.mem_map_of_mem (f := (·.1)) (exB_mem.2 ⟨i, h, rfl, rfl⟩)
theorem exB_held {sd pr s : Int} {k : Nat} (h : ∀ i : Nat, i < k → (i : Int) ≠ s) : heldOf (exB sd pr k) s = [] := by
  rw [List.eq_nil_iff_forall_not_mem]
  intro x hx
  obtain ⟨i, h1, _, h3⟩ := exB_mem.1 (held_mem.1 hx)
  exact h i h1 h3.symm
theorem free_nil {st : PSt} (hJ : st.J = []) (pr po : Int) : freeP st pr po = !(look ⟨pr, po⟩ st.B).isSome := by
  unfold freeP; rw [hJ]; simp [cntP]
theorem ex_step {sd pr : Int} {k : Nat} (hk : k < 64) (hv : vpr pr = true) : anyR (exSt sd pr k) pr k = (exP sd k, 0, exSt sd pr (k + 1)) := by
  have hb : bindOf (exSt sd pr k).B k = ⟨0, 0⟩ := by
    unfold bindOf exSt; simp only
    rw [exB_held (fun i hi => by omega)]; rfl
  have hf : firstP (exSt sd pr k) pr = some (exP sd k) := by
    unfold firstP
    rw [find_range_some (j := 0) (by decide) ?_ (fun i hi => by omega)]
    · simp [anyP, exSt, exP]
    · rw [free_nil rfl]
      have e : anyP (exSt sd pr k) ((0 : Nat) : Int) = exP sd k := by simp [anyP, exSt, exP]
      rw [e]
      show (!(look ⟨pr, exP sd k⟩ (exB sd pr k)).isSome) = true
      rw [exB_look (fun i hi he => by have := exP_inj (by omega) hk he; omega)]; rfl
  unfold anyR
  rw [if_pos hv, hb, hf]
  simp only [bne_self_eq_false, Bool.false_eq_true, if_false]
  unfold exSt addB
  rw [exB_succ]
  simp
theorem ex_full {sd pr : Int} (hv : vpr pr = true) : anyR (exSt sd pr 64) pr 1000 = (0, 231, exSt sd pr 64) := by
  have hb : bindOf (exSt sd pr 64).B 1000 = ⟨0, 0⟩ := by
    unfold bindOf exSt; simp only
    rw [exB_held (fun i hi => by omega)]; rfl
  have hf : firstP (exSt sd pr 64) pr = none := by
    unfold firstP
    rw [find_range_none]
    · rfl
    · intro j hj
      rw [free_nil rfl]
      have e : anyP (exSt sd pr 64) (j : Int) = exP sd j := by simp only [anyP, exSt, exP]; omega
      rw [e]
      show (!(look ⟨pr, exP sd j⟩ (exB sd pr 64)).isSome) = false
      rw [exB_has hj]; rfl
  unfold anyR
  rw [if_pos hv, hb, hf]
  simp
def exE (sd pr : Int) (q : Nat) : PSt := ⟨sd, 65, rel q (exB sd pr 64) ++ [(⟨pr, exP sd q⟩, 1000)], []⟩
theorem rel_look {sd pr : Int} {q j : Nat} (hq : q < 64) (hj : j < 64) : (look ⟨pr, exP sd j⟩ (rel (q : Int) (exB sd pr 64))).isSome = decide (j ≠ q) := by
  rw [look_isSome]
  congr 1
  rw [eq_iff_iff]
  constructor
  · intro h
    obtain ⟨⟨x, s⟩, hx, e⟩ := List.mem_map.1 h
    obtain ⟨h1, h2⟩ := List.mem_filter.1 hx
    obtain ⟨i, h3, h4, h5⟩ := exB_mem.1 h1
    simp only at e h2
    rw [h4, Bk.mk.injEq] at e
    have := exP_inj h3 hj e.2
    subst this
    rintro rfl
    simp [h5] at h2
  · intro h
    refine List.mem_map.2 ⟨(⟨pr, exP sd j⟩, (j : Int)), List.mem_filter.2 ⟨exB_mem.2 ⟨j, hj, rfl, rfl⟩, ?_⟩, rfl⟩
    simp only [decide_eq_true_eq]; omega
theorem ex_rel {sd pr : Int} {q : Nat} (hq : q < 64) (hv : vpr pr = true) : anyR (relS (exSt sd pr 64) q) pr 1000 = (exP sd q, 0, exE sd pr q) := by
  have hb : bindOf (relS (exSt sd pr 64) q).B 1000 = ⟨0, 0⟩ := by
    unfold bindOf relS exSt; simp only
    rw [held_rel, exB_held (fun i hi => by omega)]; simp
  have hany : ∀ j : Nat, anyP (relS (exSt sd pr 64) q) (j : Int) = exP sd j := fun j => by simp only [anyP, relS, exSt, exP]; omega
  have hfree : ∀ j : Nat, j < 64 → freeP (relS (exSt sd pr 64) q) pr (exP sd j) = decide (j = q) := fun j hj => by
    rw [free_nil (by simp [relS, exSt, rel])]
    show (!(look ⟨pr, exP sd j⟩ (rel (q : Int) (exB sd pr 64))).isSome) = _
    rw [rel_look hq hj]; simp
  have hf : firstP (relS (exSt sd pr 64) q) pr = some (exP sd q) := by
    unfold firstP
    rw [find_range_some (j := q) hq (by rw [hany, hfree q hq]; simp) (fun i hi => by rw [hany, hfree i (by omega)]; simp; omega)]
    simp [hany]
  unfold anyR
  rw [if_pos hv, hb, hf]
  simp only [bne_self_eq_false, Bool.false_eq_true, if_false]
  unfold exE addB relS exSt
  simp [rel]
theorem look_app {κ : Type} [DecidableEq κ] (k k' : κ) (s : Int) : ∀ m : List (κ × Int), look k (m ++ [(k', s)]) = (look k m).or (if k = k' then some s else none)
  | [] => by simp [look]
  | x :: m => by
    simp only [List.cons_append, look]
    split
    · rfl
    · exact look_app k k' s m
theorem ex_look {sd pr : Int} {q : Nat} (hq : q < 64) : lookF (exE sd pr q) pr (exP sd q) 5 6 = (1000, true) := by
  have h1 : look ⟨pr, exP sd q⟩ (rel (q : Int) (exB sd pr 64)) = none := by
    have := rel_look (sd := sd) (pr := pr) hq hq
    cases h : look ⟨pr, exP sd q⟩ (rel (q : Int) (exB sd pr 64)) with
    | none => rfl
    | some v => rw [h] at this; simp at this
  rw [lookF_def]
  have e1 : (if pr = 6 then look (⟨exP sd q, 5, 6⟩ : Ck) (exE sd pr q).J else none) = none := by simp [exE, look]
  have e2 : look ⟨pr, exP sd q⟩ (exE sd pr q).B = some 1000 := by
    unfold exE; simp only
    rw [look_app, h1]; simp
  rw [e1, e2]
  simp [exE, heldOf]
theorem range_ne : ∀ q, q < 64 → ((List.range 64).filter fun i => decide (i ≠ q)).length = 63 := by decide +kernel
theorem ex_rlen {sd pr : Int} {q : Nat} (hq : q < 64) : (rel (q : Int) (exB sd pr 64)).length = 63 := by
  have : rel (q : Int) (exB sd pr 64) = (((List.range 64).filter fun i => decide (i ≠ q)).map fun i => ((⟨pr, exP sd i⟩ : Bk), (i : Int))) := by
    unfold rel exB
    rw [List.filter_map]
    congr 1
    apply List.filter_congr
    intro i _
    simp
    omega
  rw [this, List.length_map]
  exact range_ne q hq
theorem ex_len {sd pr : Int} {q : Nat} (hq : q < 64) : ((exE sd pr q).B.length : Int) + (exE sd pr q).J.length = 64 := by
  unfold exE; simp [ex_rlen hq]
def metB (sd : Int) (k : Nat) (j : Nat) : Bool := (List.range k).any fun i => exP sd i == 49152 + j
theorem met_succ (sd : Int) (k j : Nat) : metB sd (k + 1) j = (metB sd k j || (exP sd k == 49152 + j)) := by simp [metB, List.range_succ]
theorem met_new {sd : Int} {k : Nat} (hk : k < 64) : metB sd k (exP sd k - 49152).toNat = false := by
  have := exP_bd sd k
  unfold metB
  rw [List.any_eq_false]
  intro i hi he
  rw [beq_iff_eq] at he
  have h2 : i < k := by simpa using hi
  have := exP_inj (sd := sd) (i := i) (j := k) (by omega) hk (by omega)
  omega

end Go.Proofs.Ytjngfhgcifhioaa
