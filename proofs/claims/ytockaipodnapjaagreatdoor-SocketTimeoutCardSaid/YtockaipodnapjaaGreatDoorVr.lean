/- A machine of symbolic values: sane() as a contract; from the package variables to a call. -/
import Derived.Test.YtockaipodnapjaaGreatDoorVs
namespace Go.Proofs.YtockaipodnapjaaGreatDoor
open Go Go.RowKit
set_option linter.unusedVariables false
set_option maxRecDepth 100000
def intsF : List V → List Int → Bool
  | [], [] => true
  | .int false .i64 n :: l, m :: k => (match ieq n m with
    | true => intsF l k
    | false => false)
  | _, _ => false
theorem intsF_eq : ∀ {l : List V} {k : List Int}, intsF l k = true → l = k.map fun n => .int false .i64 n
  | l, k, h => by
    unfold intsF at h
    split at h
    · rfl
    · split at h
      · rename_i hn
        rw [ieq_dec] at hn
        have := of_decide_eq_true hn
        subst this
        simp only [List.map_cons]
        rw [← intsF_eq h]
      · cases h
    · cases h
def triN : List Int := triS.map fun v => match v with
  | .int _ _ n => n
  | _ => 0
def chk0 (p : Pl Nat) : Bool := match p with
  | .glb 0 [.lit (.iface 233 (.agg ⟨[.pointer (some ⟨4, 96, none⟩)]⟩))] 0 => true
  | _ => false
def chk1 (p : Pl Nat) : Bool := match p with
  | .glb 1 [.ifc 400 (.nm 3)] 0 => true
  | _ => false
def chk2 (p : Pl Nat) : Bool := match p with
  | .glb 2 l 0 => intsF l triN
  | _ => false
def chk3 (p : Pl Nat) : Bool := match p with
  | .none => true
  | _ => false
def chkS (i : Nat) (p : Pl Nat) : Bool := match i with
  | 0 => chk0 p
  | 1 => chk1 p
  | 2 => chk2 p
  | _ => chk3 p
theorem chkS_ok (i : Nat) (p : Pl Nat) (hi : i < 4) (h : chkS i p = true) : p = Mget MS i := by
  match i, hi with
  | 0, _ =>
    have h : chk0 p = true := h
    unfold chk0 at h
    split at h
    · rfl
    · cases h
  | 1, _ =>
    have h : chk1 p = true := h
    unfold chk1 at h
    split at h
    · rfl
    · cases h
  | 2, _ =>
    have h : chk2 p = true := h
    unfold chk2 at h
    split at h
    · rw [intsF_eq h]
      rfl
    · cases h
  | 3, _ =>
    have h : chk3 p = true := h
    unfold chk3 at h
    split at h
    · rfl
    · cases h
theorem MS_rest (i : Nat) (h : 4 ≤ i) : Mget MS i = .none := by
  unfold Mget
  rw [List.getD_eq_getElem?_getD, List.getElem?_eq_none (by exact h)]
  rfl
theorem MS_sc (i : Nat) : (Mget MS i).sc (fun j => j < 4) := by
  match i with
  | 0 => exact ⟨trivial, trivial⟩
  | 1 => exact ⟨(by show 3 < 4; omega), trivial⟩
  | 2 => exact clL_sc _ rfl
  | 3 => trivial
  | n + 4 => rw [MS_rest _ (by omega)]; trivial
def saneC (args : List V) : T Nat := clsC chkS (.bool false true) 4 args
theorem saneC_ok (args : List V) : CallOK arS Tryz.prog 10 args (saneC args) :=
  clsC_ok entr tblN_ok (MS := MS) (len := 4) (tr := trM 0 MS .z) (tri_of MS (by decide)) (by decide) chkS_ok MS_rest MS_sc rfl (Z := isT) (fun u hu ρ => by
    unfold isT at hu
    split at hu
    · subst hu; rfl
    · cases hu) sane_run args
end Go.Proofs.YtockaipodnapjaaGreatDoor

namespace Go.Proofs.YtockaipodnapjaaGreatDoor
open Go Go.RowKit
set_option linter.unusedVariables false
set_option maxRecDepth 100000
noncomputable def endG : RK Nat (Option (Obs × List V × Nat)) := fun r _ _ _ obs _ w => some (obs, r.l, Nat.land w 7)
noncomputable def runG (kof : TypeId → Option (Nat × Bool)) (tbl : FuncId → Option (List V → T Nat)) (n : Nat) (f : FuncId) (args : List V) (ch : List Bool) : Option (Obs × List V × Nat) := runF (fun _ => none) ((evF Tryz.prog kof tbl n).call f args rt) ch 4 (trM 0 MS .z) [] 0 0 endG
theorem obj_of {w : World} {g i : Nat} {v : Value} (h : w.cell? ⟨g, i, none⟩ = some v) : ∃ a t f, w.heap[g]? = some (.cells a t f) := by
  simp only [World.cell?] at h
  split at h
  · rename_i a t f e; exact ⟨_, _, _, e⟩
  · cases h
theorem cellO_of {w : World} {g i : Nat} {v : Value} {a : Array Value} {t : TypeId} {f : Nat × Nat} (h : w.cell? ⟨g, i, none⟩ = some v) (ho : w.heap[g]? = some (.cells a t f)) : cellO (.cells a t f) i = some v := by
  simp only [World.cell?, ho] at h
  exact h
structure Glbs (w : World) : Prop where
  k0 : w.cell? ⟨0, 0, none⟩ = some (.iface 233 (.agg ⟨[.pointer (some ⟨4, 96, none⟩)]⟩))
  k1 : ∃ v, w.cell? ⟨1, 0, none⟩ = some (.iface 400 v)
  k2 : ∀ j v, (denL ρ0 triS)[j]? = some v → w.cell? ⟨2, j, none⟩ = some v
theorem vm_row {kof : TypeId → Option (Nat × Bool)} (hE : Entr Tryz.prog kof) {tbl : FuncId → Option (List V → T Nat)} (htbl : TblOK arS Tryz.prog tbl) {n : Nat} {f : FuncId} {args : List V} {ch : List Bool} {L : Obs} {U : V} (hargs : clL args = true) (hU : U.cl = true)
    (hrun : runG kof tbl n f args ch = some (L, [U], 0)) (hL : okObs L) (w : World) (hw : Glbs w) : Calls Tryz.prog f (denL ρ0 args).toArray w fun e w' => e = .returned (U.den ρ0) ∧ Below w.heap.size w w' := by
  obtain ⟨k0, ⟨v1, k1⟩, k2⟩ := hw
  obtain ⟨a0, t0, f0, o0⟩ := obj_of k0
  obtain ⟨a1, t1, f1, o1⟩ := obj_of k1
  obtain ⟨a2, t2, f2, o2⟩ := obj_of (k2 0 _ rfl)
  obtain ⟨ρ, hρ0, hρ1, hρ2, hρ3⟩ : ∃ ρ : En, ρ 0 = objV (.cells a0 t0 f0) ∧ ρ 1 = objV (.cells a1 t1 f1) ∧ ρ 2 = objV (.cells a2 t2 f2) ∧ ρ 3 = v1 :=
    ⟨fun i => match i with | 0 => objV (.cells a0 t0 f0) | 1 => objV (.cells a1 t1 f1) | 2 => objV (.cells a2 t2 f2) | _ => v1, rfl, rfl, rfl, rfl⟩
  have hden : denL ρ args = denL ρ0 args := denL_eq (A := fun _ => False) (fun _ h => h.elim) args (clL_sc _ hargs)
  have htri : denL ρ triS = denL ρ0 triS := denL_eq (A := fun _ => False) (fun _ h => h.elim) triS (clL_sc _ rfl)
  have hA : At arS w (fun b => b < 3) w ρ MS := by
    refine ⟨Upd.refl _ _, fun i b => i < 3 ∧ b = i, fun i hi => ?_, fun i j hi hj hij b hb hc => hij (hb.2.symm.trans hc.2)⟩
    refine ⟨?_, fun b hb => .inl (by omega)⟩
    match i, hi with
    | 0, _ =>
      refine ⟨fun i u hu => ?_, fun b => by simp, ?_⟩
      · match i, hu with
        | 0, hu =>
          cases hu
          rw [hρ0]
          exact cellO_of k0 o0
      · rw [hρ0]; exact o0
    | 1, _ =>
      refine ⟨fun i u hu => ?_, fun b => by simp, ?_⟩
      · match i, hu with
        | 0, hu =>
          have hu : some (Value.iface 400 (ρ 3)) = some u := hu
          rw [hρ3] at hu
          cases hu
          rw [hρ1]
          exact cellO_of k1 o1
      · rw [hρ1]; exact o1
    | 2, _ =>
      refine ⟨fun i u hu => ?_, fun b => by simp, ?_⟩
      · rw [htri] at hu
        rw [hρ2]
        exact cellO_of (k2 i u hu) o2
      · rw [hρ2]; exact o2
    | 3, _ => exact fun b hb => by omega
  have hsc := MS_sc
  unfold runG at hrun
  rcases fast_call (R := Option (Obs × List V × Nat)) (fun _ => none) (P := Tryz.prog) (kof := kof) (tbl := tbl) (n := n) (f := f) (args := args) (ch := ch) (tri_of MS (by decide)) (K := endG) with ⟨m, h⟩ | ⟨v, M1, ch1, obs1, lg1, len', tr', e1, e2, u, e3, e4⟩
  · have h : runF (fun _ => none) ((evF Tryz.prog kof tbl n).call f args rt) ch 4 (trM 0 MS .z) [] 0 0 endG = none := h
    rw [h] at hrun; cases hrun
  have e4 : runF (fun _ => none) ((evF Tryz.prog kof tbl n).call f args rt) ch 4 (trM 0 MS .z) [] 0 0 endG = endG (rv u) ch1 len' tr' obs1 lg1.t lg1.w := e4
  rw [e4] at hrun
  simp only [endG, Option.some.injEq, Prod.mk.injEq] at hrun
  obtain ⟨rfl, hv, hw⟩ := hrun
  obtain rfl : u = U := (List.cons.inj hv).1
  have hnw : ∀ i, i < 3 → ¬ wrote lg1 i := fun i hi hwr => by
    have : (Nat.land lg1.w (2 ^ 3 - 1)).testBit i = true := by
      show (lg1.w &&& (2 ^ 3 - 1)).testBit i = true
      rw [Nat.testBit_and, Nat.testBit_two_pow_sub_one]
      have : lg1.w.testBit i = true := hwr
      simp [this, hi]
    rw [show (2 ^ 3 - 1 : Nat) = 7 from rfl, hw] at this
    simp at this
  obtain ⟨l, hl, _, hsame, _⟩ := run_loc _ (M2 := MS) e1
  rw [un_nil] at hl
  subst hl
  have hlen := run_len _ e1
  have hM1 : ∀ i, i < 3 → Mget M1 i = Mget MS i := fun i hi => hsame i (by show i < 4; omega) (hnw i hi)
  have hcall := (allOK hE htbl n).call f args ch MS [] .nil _ M1 ch1 obs1 _ e1 hL (fun j => j < 4) ρ w (fun b => b < 3) w (fun r ρ' w' => r = v ∧ Ext 4 M1.length ρ ρ' ∧ At arS w (fun b => b < 3) w' ρ' M1) (fun n hn => .inl (by show n < 4; omega)) hA hsc (clL_sc _ hargs)
    (fun ρ' w' a b c d => ⟨rfl, a, b⟩) (fun e w' => e = .returned (u.den ρ0) ∧ Below w.heap.size w w') fun r ρ' w' x hx hk2 => ?_
  · rw [hden] at hcall; exact hcall
  obtain ⟨er, hE2, hA2⟩ := hk2
  have hxu : x = u := by
    have h5 : r.l = [x] := by rw [hx]
    rw [er, e3] at h5
    exact ((List.cons.inj h5).1).symm
  refine ⟨by rw [hxu, V.cl_den hU], hA2.upd.os, hA2.upd.tape, hA2.upd.output, hA2.upd.size, fun b hb => ?_⟩
  by_cases c : b < 3
  · have h4 : 4 ≤ M1.length := hlen
    obtain ⟨F, g1, _⟩ := OwnN.step hA2 (i := b) (by omega)
    rw [hM1 b c] at g1
    have hb' : ρ' b = ρ b := hE2 b (.inl (by omega))
    match b, c, g1, hb' with
    | 0, _, g1, hb' =>
      have g1 : w'.heap[0]? = some (objOf (ρ' 0)) := g1.2.2
      rw [g1, hb', hρ0, o0]; rfl
    | 1, _, g1, hb' =>
      have g1 : w'.heap[1]? = some (objOf (ρ' 1)) := g1.2.2
      rw [g1, hb', hρ1, o1]; rfl
    | 2, _, g1, hb' =>
      have g1 : w'.heap[2]? = some (objOf (ρ' 2)) := g1.2.2
      rw [g1, hb', hρ2, o2]; rfl
  · exact hA2.upd.block b hb c
end Go.Proofs.YtockaipodnapjaaGreatDoor

namespace Go.Proofs.YtockaipodnapjaaGreatDoor
open Go Go.RowKit
set_option linter.unusedVariables false
set_option maxRecDepth 100000
def pickF (a n : Int) : Int := Int.tmod (match ilt a 0 with | true => Int.neg (Int.add a 1) | false => a) n
theorem pickF_rg (a : Int) {n : Int} (hn : 0 < n) : 0 ≤ pickF a n ∧ pickF a n < n := by
  unfold pickF
  have h0 : 0 ≤ (match ilt a 0 with | true => Int.neg (Int.add a 1) | false => a) := by
    rw [ilt_dec]
    by_cases h : a < 0
    · rw [decide_eq_true h]
      show 0 ≤ -(a + 1)
      omega
    · rw [decide_eq_false h]
      show 0 ≤ a
      omega
  exact ⟨Int.tmod_nonneg _ h0, Int.tmod_lt_of_pos _ hn⟩
def pkG (args : List V) : Option (Bool × V) := match args with
  | [.int _ .i64 a, .int _ .i64 n] => some (inR a && ilt 0 n, .int true .i64 (pickF a n))
  | _ => none
theorem pk_run0 (a n : Int) : runD Tryz.prog kofS tb0 100 13 [.int true .i64 a, .int true .i64 n] [false] = some ([(!ieq n 0, true), (ilt a 0, false)], [.int true .i64 (Int.tmod a n)]) := by kernel_rfl
theorem pk_run1 (a n : Int) : runD Tryz.prog kofS tb0 100 13 [.int true .i64 a, .int true .i64 n] [true] = some ([(!ieq n 0, true), (inR (Int.neg (Int.add a 1)), true), (inR (Int.add a 1), true), (ilt a 0, true)], [.int true .i64 (Int.tmod (Int.neg (Int.add a 1)) n)]) := by kernel_rfl
theorem pk_hit (a n : Int) (w : World) (ha : inR a = true) (hn : ilt 0 n = true) : Calls Tryz.prog 13 #[.int .i64 a, .int .i64 n] w fun e w' => e = .returned (.int .i64 (pickF a n)) ∧ Below w.heap.size w w' := by
  rw [inR_iff] at ha
  rw [ilt_dec] at hn
  have hn := of_decide_eq_true hn
  unfold pickF
  cases h : ilt a 0 with
  | true =>
    have h1 := h
    rw [ilt_dec] at h1
    have h1 := of_decide_eq_true h1
    refine vm_data (ar := arW) (args := [.int true .i64 a, .int true .i64 n]) entr noT_ok rfl rfl (pk_run1 a n) ?_ w
    refine okO_cons (nieq_t (by omega)) (okO_cons (inR_t ?_ ?_) (okO_cons (inR_t ?_ ?_) (okO_cons h okO_nil)))
    · show _ ≤ -(a + 1); omega
    · show -(a + 1) ≤ _; omega
    · show _ ≤ a + 1; omega
    · show a + 1 ≤ _; omega
  | false =>
    refine vm_data (ar := arW) (args := [.int true .i64 a, .int true .i64 n]) entr noT_ok rfl rfl (pk_run0 a n) ?_ w
    exact okO_cons (nieq_t (by omega)) (okO_cons h okO_nil)
theorem pkG_hit (args : List V) (c : Bool) (v : V) (h : pkG args = some (c, v)) (hc : c = true) : v.cl = true ∧ ∀ ρ w, Calls Tryz.prog 13 (denL ρ args).toArray w fun e w' => e = .returned (v.den ρ) ∧ Below w.heap.size w w' := by
  unfold pkG at h
  split at h
  case h_2 => cases h
  simp only [Option.some.injEq, Prod.mk.injEq] at h
  obtain ⟨h1, rfl⟩ := h
  have h1 := h1.trans hc
  simp only [Bool.and_eq_true] at h1
  exact ⟨rfl, fun ρ w => pk_hit _ _ w h1.1 h1.2⟩
/-- The keys of ports may be symbolic. -/
def kofX (t : TypeId) : Option (Nat × Bool) := match kofS t with
  | some (0, s) => some (0, s)
  | some (k, _) => some (k, true)
  | none => none
theorem entrX : Entr Tryz.prog kofX where
  mixed := entr.mixed
  name := entr.name
  keys := by
    intro t kd s h
    unfold kofX at h
    split at h
    · rename_i s0 h0
      cases h
      exact keyOK t 0 _ h0
    · rename_i k s0 _ h0
      cases h
      exact keyOK t _ _ h0
    · cases h
def tblR : FuncId → Option (List V → T Nat) := addT (addT tblN 10 saneC) 13 (pureC pkG)
theorem tblR_ok : TblOK arS Tryz.prog tblR := addT_ok (addT_ok tblN_ok saneC_ok) (pureC_ok pkG_hit)
end Go.Proofs.YtockaipodnapjaaGreatDoor

