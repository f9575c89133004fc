/- PortsFirewallAgree without the program: the ports and the flow table hold the same connections. -/
import Derived.Test.YtjngfhgcifhioaaPexP
import Derived.Test.YtjngfhgcifhioaaPown
import Derived.Test.YtjngfhgcifhioaaFwf
namespace Go.Proofs.Ytjngfhgcifhioaa
open Go.RowKit
set_option linter.unusedVariables false
set_option maxRecDepth 100000

def faJ (sd : Int) (th fa : Nat → Int) (k : Nat) : List (Ck × Int) := (List.range k).map fun i => (⟨exP sd i, th i, fa i⟩, (i : Int))
def faM (sd : Int) (th fa : Nat → Int) (k : Nat) : List (FK × Us) := (List.range k).map fun i => (⟨6, 9, exP sd i, th i, fa i⟩, ⟨0, (i : Int) + 1⟩)
def faP (sd : Int) (th fa : Nat → Int) (k : Nat) : PSt := ⟨sd, k, exB sd 6 k, faJ sd th fa k⟩
def faF (sd : Int) (th fa : Nat → Int) (k : Nat) : FSt := ⟨[], faM sd th fa k, k⟩
def faX (po th fa : Int) : Fl := ⟨6, 9, po, th, fa, true, false, false, 0⟩
section
variable {sd : Int} {th fa : Nat → Int} {k : Nat}
theorem faJ_succ : faJ sd th fa (k + 1) = faJ sd th fa k ++ [(⟨exP sd k, th k, fa k⟩, (k : Int))] := by simp [faJ, List.range_succ]
theorem faM_succ : faM sd th fa (k + 1) = faM sd th fa k ++ [(⟨6, 9, exP sd k, th k, fa k⟩, ⟨0, (k : Int) + 1⟩)] := by simp [faM, List.range_succ]
theorem faJ_len : (faJ sd th fa k).length = k := by simp [faJ]
theorem faM_len : (faM sd th fa k).length = k := by simp [faM]
theorem faJ_mem {x : Ck × Int} (h : x ∈ faJ sd th fa k) : ∃ i : Nat, i < k ∧ x = (⟨exP sd i, th i, fa i⟩, (i : Int)) := by
  obtain ⟨i, hi, rfl⟩ := List.mem_map.1 h
  exact ⟨i, List.mem_range.1 hi, rfl⟩
theorem fa_cnt (hk : k < 64) : cntP (faJ sd th fa k) (exP sd k) = 0 := by
  unfold cntP
  rw [List.filter_eq_nil_iff.2]
  · rfl
  · intro x hx
    obtain ⟨i, hi, rfl⟩ := faJ_mem hx
    simp only [decide_eq_true_eq]
    intro e
    have := exP_inj (by omega) hk e
    omega
theorem fa_any (hk : k < 64) : anyR (faP sd th fa k) 6 k = (exP sd k, 0, ⟨sd, ((k + 1 : Nat) : Int), exB sd 6 (k + 1), faJ sd th fa k⟩) := by
  have hb : bindOf (faP sd th fa k).B k = ⟨0, 0⟩ := by
    unfold bindOf faP; simp only
    rw [exB_held (fun i hi => by omega)]; rfl
  have e : anyP (faP sd th fa k) ((0 : Nat) : Int) = exP sd k := by simp [anyP, faP, exP]
  have hf : firstP (faP sd th fa k) 6 = some (exP sd k) := by
    unfold firstP
    rw [find_range_some (j := 0) (by decide) ?_ (fun i hi => by omega)]
    · simp [anyP, faP, exP]
    · unfold freeP
      rw [e]
      show (!(look ⟨6, exP sd k⟩ (exB sd 6 k)).isSome && !(decide ((6 : Int) = 6) && decide (0 < cntP (faJ sd th fa k) (exP sd k)))) = true
      rw [exB_look (fun i hi he => by have := exP_inj (by omega) hk he; omega), fa_cnt hk]; rfl
  unfold anyR
  rw [if_pos (by decide), hb, hf]
  simp only [bne_self_eq_false, Bool.false_eq_true, if_false]
  unfold faP addB
  rw [exB_succ]
  simp
theorem fa_lookN {κ : Type} [DecidableEq κ] {k : κ} : ∀ {m : List (κ × Int)}, (∀ x ∈ m, x.1 ≠ k) → look k m = none
  | [], _ => rfl
  | x :: m, h => by
    simp only [look]
    rw [if_neg (fun e => h x List.mem_cons_self e.symm), fa_lookN (fun y hy => h y (List.mem_cons_of_mem _ hy))]
theorem fa_lookS {κ : Type} [DecidableEq κ] {k : κ} {m : List (κ × Int)} {s : Int} (h : look k m = some s) : (k, s) ∈ m := by
  induction m with
  | nil => cases h
  | cons x m ih =>
    simp only [look] at h
    split at h
    · rename_i e; cases h; rw [e]; exact List.mem_cons_self
    · exact List.mem_cons_of_mem _ (ih h)
theorem fa_conn (hk : k < 64) (ht : 1 ≤ th k ∧ th k ≤ 65536) (hf : 1 ≤ fa k ∧ fa k ≤ 65535) :
    connE ⟨sd, ((k + 1 : Nat) : Int), exB sd 6 (k + 1), faJ sd th fa k⟩ k (exP sd k) (th k) (fa k) = 0 ∧ connS ⟨sd, ((k + 1 : Nat) : Int), exB sd 6 (k + 1), faJ sd th fa k⟩ k (exP sd k) (th k) (fa k) = faP sd th fa (k + 1) := by
  have hp := exP_bd sd k
  have h1 : (vpo (exP sd k) && vpo (fa k) && vad (th k)) = true := by
    simp only [vpo, vad, Bool.and_eq_true, decide_eq_true_eq]; omega
  have h2 : look ⟨exP sd k, th k, fa k⟩ (faJ sd th fa k) = none := fa_lookN fun x hx e => by
    obtain ⟨i, hi, rfl⟩ := faJ_mem hx
    simp only [Ck.mk.injEq] at e
    have := exP_inj (by omega) hk e.1
    omega
  have h3 : connE ⟨sd, ((k + 1 : Nat) : Int), exB sd 6 (k + 1), faJ sd th fa k⟩ k (exP sd k) (th k) (fa k) = 0 := by
    unfold connE
    rw [if_pos h1]
    simp only [h2]
    rfl
  refine ⟨h3, ?_⟩
  unfold connS
  rw [if_pos h3]
  unfold addJ faP
  simp only [faJ_succ]
theorem fa_exp {now : Int} (h : now ≤ 400) : expF now (faM sd th fa k) = faM sd th fa k := by
  unfold expF
  rw [List.filter_eq_self]
  intro x hx
  obtain ⟨i, _, rfl⟩ := List.mem_map.1 hx
  simp [oldU]; omega
theorem host_ok {n : Int} (h : 1 ≤ n ∧ n ≤ 65536) : hostB n = true := by
  simp only [hostB, validB, Bool.and_eq_true, Bool.not_eq_true', beq_eq_false_iff_ne, decide_eq_true_eq]
  omega
theorem faX_valid {po t f : Int} (hp : 1 ≤ po ∧ po ≤ 65535) (ht : 1 ≤ t ∧ t ≤ 65536) (hf : 1 ≤ f ∧ f ≤ 65535) : validF (faX po t f) = true := by
  have h9 : hostB 9 = true := by decide
  show (decide ((0:Int) ≤ 6 ∧ (6:Int) ≤ 255) && hostB 9 && hostB t && portB po && portB f) = true
  rw [h9, host_ok ht]
  simp [portB]; omega
theorem get_none {k : FK} : ∀ {m : List (FK × Us)}, (∀ x ∈ m, x.1 ≠ k) → getU k m = none
  | [], _ => rfl
  | x :: m, h => by
    simp only [getU]
    rw [if_neg (fun e => h x List.mem_cons_self e.symm), get_none (fun y hy => h y (List.mem_cons_of_mem _ hy))]
theorem set_new {k : FK} {u : Us} : ∀ {m : List (FK × Us)}, (∀ x ∈ m, x.1 ≠ k) → setU k u m = m ++ [(k, u)]
  | [], _ => rfl
  | x :: m, h => by
    simp only [setU]
    rw [if_neg (fun e => h x List.mem_cons_self e.symm), set_new (fun y hy => h y (List.mem_cons_of_mem _ hy))]; rfl
theorem fa_out (hk : k < 64) (ht : 1 ≤ th k ∧ th k ≤ 65536) (hf : 1 ≤ fa k ∧ fa k ≤ 65535) : passF (faF sd th fa k) 0 (faX (exP sd k) (th k) (fa k)) false = (true, faF sd th fa (k + 1)) := by
  have hp := exP_bd sd k
  have hv := faX_valid (po := exP sd k) (by omega) ht hf
  have hno : ∀ x ∈ faM sd th fa k, x.1 ≠ (⟨6, 9, exP sd k, th k, fa k⟩ : FK) := fun x hx e => by
    obtain ⟨i, hi, rfl⟩ := List.mem_map.1 hx
    simp only [FK.mk.injEq] at e
    have := exP_inj (by have := List.mem_range.1 hi; omega) hk e.2.2.1
    have := List.mem_range.1 hi
    omega
  have hg : getU (keyF (faX (exP sd k) (th k) (fa k))) (expF 0 (faF sd th fa k).m) = none := by
    show getU _ (expF 0 (faM sd th fa k)) = none
    rw [fa_exp (by decide)]; exact get_none hno
  unfold passF
  rw [hv, if_pos rfl, hg]
  show (if admitF [] _ false then (if false then _ else (true, (⟨[], setU ⟨6, 9, exP sd k, th k, fa k⟩ ⟨0, (k : Int) + 1⟩ (expF 0 (faM sd th fa k)), (k : Int) + 1⟩ : FSt))) else _) = _
  rw [fa_exp (by decide), set_new hno]
  unfold faF
  rw [faM_succ]
  simp [admitF]
theorem faF_fw (hk : k ≤ 20) : FW 0 20 (faF sd th fa k) ∧ (faF sd th fa k).m.length < 32 := by
  refine ⟨⟨?_, fun x hx => ?_, by simp [faF]; omega, by simp [faF], fun x hx => ?_, by show (faM sd th fa k).length ≤ 32; rw [faM_len]; omega⟩, by show (faM sd th fa k).length < 32; rw [faM_len]; omega⟩
  · show ((faM sd th fa k).map (·.1)).Nodup
    unfold faM
    rw [List.map_map]
    rw [List.nodup_iff_pairwise_ne, List.pairwise_map]
    refine List.Pairwise.imp_of_mem (fun {i j} hi hj hij => ?_) (List.nodup_range (n := k))
    intro e
    simp only [Function.comp, FK.mk.injEq] at e
    have h1 := List.mem_range.1 hi
    have h2 := List.mem_range.1 hj
    exact hij (exP_inj (by omega) (by omega) e.2.2.1)
  · obtain ⟨i, _, rfl⟩ := List.mem_map.1 hx
    simp
  · obtain ⟨i, _, rfl⟩ := List.mem_map.1 hx
    simp
/-- The connection of (po, t, f), if there is one. -/
theorem fa_end (hk : k ≤ 20) {po t f : Int} (hp : 1 ≤ po ∧ po ≤ 65535) (ht : 1 ≤ t ∧ t ≤ 65536) (hf : 1 ≤ f ∧ f ≤ 65535) : ∃ (b : Bool) (n : Int), (passF (faF sd th fa k) 1 (faX po t f) true).1 = b ∧ lookF (faP sd th fa k) 6 po t f = (n, b) := by
  have hv := faX_valid hp ht hf
  have hexp : expF 1 (faF sd th fa k).m = faM sd th fa k := fa_exp (by decide)
  cases hl : look ⟨po, t, f⟩ (faJ sd th fa k) with
  | some s =>
    obtain ⟨i, hi, e⟩ := faJ_mem (fa_lookS hl)
    simp only [Prod.mk.injEq, Ck.mk.injEq] at e
    obtain ⟨⟨rfl, rfl, rfl⟩, rfl⟩ := e
    have hm : ((⟨6, 9, exP sd i, th i, fa i⟩ : FK), (⟨0, (i : Int) + 1⟩ : Us)) ∈ faM sd th fa k := List.mem_map.2 ⟨i, List.mem_range.2 hi, rfl⟩
    have hg : ∃ u, getU (⟨6, 9, exP sd i, th i, fa i⟩ : FK) (faM sd th fa k) = some u := by
      cases hg : getU (⟨6, 9, exP sd i, th i, fa i⟩ : FK) (faM sd th fa k) with
      | some u => exact ⟨u, rfl⟩
      | none =>
        exfalso
        have key : ∀ m : List (FK × Us), getU (⟨6, 9, exP sd i, th i, fa i⟩ : FK) m = none → ∀ x ∈ m, x.1 ≠ (⟨6, 9, exP sd i, th i, fa i⟩ : FK) := by
          intro m
          induction m with
          | nil => intro _ x hx; cases hx
          | cons y m ih =>
            intro h x hx
            simp only [getU] at h
            split at h
            · cases h
            · rename_i hne
              rcases List.mem_cons.1 hx with rfl | hx
              · exact fun e => hne e.symm
              · exact ih h x hx
        exact key _ hg _ hm rfl
    obtain ⟨u, hu⟩ := hg
    refine ⟨true, (i : Int), ?_, ?_⟩
    · unfold passF
      rw [hv, if_pos rfl, hexp]
      rw [show keyF (faX (exP sd i) (th i) (fa i)) = (⟨6, 9, exP sd i, th i, fa i⟩ : FK) from rfl, hu]
    · unfold lookF
      rw [if_pos rfl]
      show (match look (⟨exP sd i, th i, fa i⟩ : Ck) (faJ sd th fa k) with | some s => (s, true) | none => _) = _
      rw [hl]
  | none =>
    have hno : ∀ x ∈ faM sd th fa k, x.1 ≠ (⟨6, 9, po, t, f⟩ : FK) := fun x hx e => by
      obtain ⟨i, hi, rfl⟩ := List.mem_map.1 hx
      simp only [FK.mk.injEq] at e
      obtain ⟨_, _, rfl, rfl, rfl⟩ := e
      have key : ∀ m : List (Ck × Int), look (⟨exP sd i, th i, fa i⟩ : Ck) m = none → ∀ x ∈ m, x.1 ≠ (⟨exP sd i, th i, fa i⟩ : Ck) := by
        intro m
        induction m with
        | nil => intro _ x hx; cases hx
        | cons y m ih =>
          intro h x hx
          simp only [look] at h
          split at h
          · cases h
          · rename_i hne
            rcases List.mem_cons.1 hx with rfl | hx
            · exact fun e => hne e.symm
            · exact ih h x hx
      exact key _ hl ((⟨exP sd i, th i, fa i⟩ : Ck), (i : Int)) (List.mem_map.2 ⟨i, hi, rfl⟩) rfl
    refine ⟨false, 0, ?_, ?_⟩
    · unfold passF
      rw [hv, if_pos rfl, hexp]
      rw [show keyF (faX po t f) = (⟨6, 9, po, t, f⟩ : FK) from rfl, get_none hno]
      rfl
    · unfold lookF
      rw [if_pos rfl]
      show (match look (⟨po, t, f⟩ : Ck) (faJ sd th fa k) with | some s => (s, true) | none => match look (⟨6, po⟩ : Bk) (exB sd 6 k) with | none => ((0 : Int), false) | some s => if heldOf (faJ sd th fa k) s = [] then (s, true) else (0, false)) = _
      rw [hl]
      simp only
      cases hb : look ⟨6, po⟩ (exB sd 6 k) with
      | none => rfl
      | some s =>
        obtain ⟨i, hi, _, rfl⟩ := exB_mem.1 (fa_lookS hb)
        simp only
        rw [if_neg]
        intro e
        have : (⟨exP sd i, th i, fa i⟩ : Ck) ∈ heldOf (faJ sd th fa k) (i : Int) := List.mem_map.2 ⟨((⟨exP sd i, th i, fa i⟩ : Ck), (i : Int)), List.mem_filter.2 ⟨List.mem_map.2 ⟨i, List.mem_range.2 hi, rfl⟩, by simp⟩, rfl⟩
        rw [e] at this
        cases this
end

end Go.Proofs.Ytjngfhgcifhioaa
