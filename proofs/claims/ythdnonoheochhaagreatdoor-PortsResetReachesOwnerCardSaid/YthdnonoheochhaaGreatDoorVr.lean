/- A machine of symbolic values: the package variables; numbers; examples() as a contract. -/
import Derived.Test.YthdnonoheochhaaGreatDoorVn
import Derived.Test.YthdnonoheochhaaGreatDoorVf
import Derived.Test.YthdnonoheochhaaGreatDoorVc
namespace Go.Proofs.YthdnonoheochhaaGreatDoor
open Go Go.RowKit
set_option linter.unusedVariables false
set_option maxRecDepth 100000
def triS : List V := [.int false .i64 0, .int false .i64 1, .int false .i64 1, .int false .i64 0, .int false .i64 2, .int false .i64 2, .int false .i64 1, .int false .i64 3, .int false .i64 3, .int false .i64 1, .int false .i64 2, .int false .i64 2, .int false .i64 1, .int false .i64 5, .int false .i64 0, .int false .i64 2, .int false .i64 4, .int false .i64 3, .int false .i64 2, .int false .i64 5, .int false .i64 4, .int false .i64 2, .int false .i64 6, .int false .i64 6, .int false .i64 3, .int false .i64 5, .int false .i64 4, .int false .i64 3, .int false .i64 6, .int false .i64 6, .int false .i64 4, .int false .i64 7, .int false .i64 5, .int false .i64 4, .int false .i64 6, .int false .i64 7, .int false .i64 5, .int false .i64 6, .int false .i64 9, .int false .i64 6, .int false .i64 5, .int false .i64 8, .int false .i64 7, .int false .i64 7, .int false .i64 9, .int false .i64 8, .int false .i64 7, .int false .i64 0]
def MS : List (Pl Nat) := [.glb 0 [.ifc 260 (.nm 2)] 0, .glb 1 triS 0, .none]
end Go.Proofs.YthdnonoheochhaaGreatDoor
namespace Go.Proofs.YthdnonoheochhaaGreatDoor
open Go Go.RowKit
set_option linter.unusedVariables false
set_option maxRecDepth 100000
noncomputable def endG : RK Nat (Option (Obs × List V × Nat)) := fun r _ _ _ obs _ w => some (obs, r.l, Nat.land w 3)
noncomputable def runG (kof : TypeId → Option (Nat × Bool)) (tbl : FuncId → Option (List V → T Nat)) (n : Nat) (f : FuncId) (args : List V) (ch : List Bool) : Option (Obs × List V × Nat) := runF (fun _ => none) ((evF Tryz.prog kof tbl n).call f args rt) ch 3 (trM 0 MS .z) [] 0 0 endG
theorem obj_of {w : World} {g i : Nat} {v : Value} (h : w.cell? ⟨g, i, none⟩ = some v) : ∃ a t f, w.heap[g]? = some (.cells a t f) := by
  simp only [World.cell?] at h
  split at h
  · rename_i a t f e; exact ⟨_, _, _, e⟩
  · cases h
theorem cellO_of {w : World} {g i : Nat} {v : Value} {a : Array Value} {t : TypeId} {f : Nat × Nat} (h : w.cell? ⟨g, i, none⟩ = some v) (ho : w.heap[g]? = some (.cells a t f)) : cellO (.cells a t f) i = some v := by
  simp only [World.cell?, ho] at h
  exact h
structure Glbs (w : World) : Prop where
  k1 : ∃ v, w.cell? ⟨0, 0, none⟩ = some (.iface 260 v)
  k2 : ∀ j v, (denL ρ0 triS)[j]? = some v → w.cell? ⟨1, j, none⟩ = some v
theorem MS_rest (i : Nat) (h : 3 ≤ i) : Mget MS i = .none := by
  unfold Mget
  rw [List.getD_eq_getElem?_getD, List.getElem?_eq_none (by exact h)]
  rfl
theorem MS_sc (i : Nat) : (Mget MS i).sc (fun j => j < 3) := by
  match i with
  | 0 => exact ⟨(by show 2 < 3; omega), trivial⟩
  | 1 => exact clL_sc _ rfl
  | 2 => trivial
  | n + 3 => rw [MS_rest _ (by omega)]; trivial
theorem vm_row {kof : TypeId → Option (Nat × Bool)} (hE : Entr Tryz.prog kof) {tbl : FuncId → Option (List V → T Nat)} (htbl : TblOK arS Tryz.prog tbl) {n : Nat} {f : FuncId} {args : List V} {ch : List Bool} {L : Obs} {U : V} (hargs : clL args = true) (hU : U.cl = true)
    (hrun : runG kof tbl n f args ch = some (L, [U], 0)) (hL : okObs L) (w : World) (hw : Glbs w) : Calls Tryz.prog f (denL ρ0 args).toArray w fun e w' => e = .returned (U.den ρ0) ∧ Below w.heap.size w w' := by
  obtain ⟨⟨v1, k1⟩, k2⟩ := hw
  obtain ⟨a1, t1, f1, o1⟩ := obj_of k1
  obtain ⟨a2, t2, f2, o2⟩ := obj_of (k2 0 _ rfl)
  obtain ⟨ρ, hρ1, hρ2, hρ3⟩ : ∃ ρ : En, ρ 0 = objV (.cells a1 t1 f1) ∧ ρ 1 = objV (.cells a2 t2 f2) ∧ ρ 2 = v1 :=
    ⟨fun i => match i with | 0 => objV (.cells a1 t1 f1) | 1 => objV (.cells a2 t2 f2) | _ => v1, rfl, rfl, rfl⟩
  have hden : denL ρ args = denL ρ0 args := denL_eq (A := fun _ => False) (fun _ h => h.elim) args (clL_sc _ hargs)
  have htri : denL ρ triS = denL ρ0 triS := denL_eq (A := fun _ => False) (fun _ h => h.elim) triS (clL_sc _ rfl)
  have hA : At arS w (fun b => b < 2) w ρ MS := by
    refine ⟨Upd.refl _ _, fun i b => i < 2 ∧ b = i, fun i hi => ?_, fun i j hi hj hij b hb hc => hij (hb.2.symm.trans hc.2)⟩
    refine ⟨?_, fun b hb => .inl (by omega)⟩
    match i, hi with
    | 0, _ =>
      refine ⟨fun i u hu => ?_, fun b => by simp, ?_⟩
      · match i, hu with
        | 0, hu =>
          have hu : some (Value.iface 260 (ρ 2)) = some u := hu
          rw [hρ3] at hu
          cases hu
          rw [hρ1]
          exact cellO_of k1 o1
      · rw [hρ1]; exact o1
    | 1, _ =>
      refine ⟨fun i u hu => ?_, fun b => by simp, ?_⟩
      · rw [htri] at hu
        rw [hρ2]
        exact cellO_of (k2 i u hu) o2
      · rw [hρ2]; exact o2
    | 2, _ => exact fun b hb => by omega
  have hsc := MS_sc
  unfold runG at hrun
  rcases fast_call (R := Option (Obs × List V × Nat)) (fun _ => none) (P := Tryz.prog) (kof := kof) (tbl := tbl) (n := n) (f := f) (args := args) (ch := ch) (tri_of MS (by decide)) (K := endG) with ⟨m, h⟩ | ⟨v, M1, ch1, obs1, lg1, len', tr', e1, e2, u, e3, e4⟩
  · have h : runF (fun _ => none) ((evF Tryz.prog kof tbl n).call f args rt) ch 3 (trM 0 MS .z) [] 0 0 endG = none := h
    rw [h] at hrun; cases hrun
  have e4 : runF (fun _ => none) ((evF Tryz.prog kof tbl n).call f args rt) ch 3 (trM 0 MS .z) [] 0 0 endG = endG (rv u) ch1 len' tr' obs1 lg1.t lg1.w := e4
  rw [e4] at hrun
  simp only [endG, Option.some.injEq, Prod.mk.injEq] at hrun
  obtain ⟨rfl, hv, hw⟩ := hrun
  obtain rfl : u = U := (List.cons.inj hv).1
  have hnw : ∀ i, i < 2 → ¬ wrote lg1 i := fun i hi hwr => by
    have : (Nat.land lg1.w (2 ^ 2 - 1)).testBit i = true := by
      show (lg1.w &&& (2 ^ 2 - 1)).testBit i = true
      rw [Nat.testBit_and, Nat.testBit_two_pow_sub_one]
      have : lg1.w.testBit i = true := hwr
      simp [this, hi]
    rw [show (2 ^ 2 - 1 : Nat) = 3 from rfl, hw] at this
    simp at this
  obtain ⟨l, hl, _, hsame, _⟩ := run_loc _ (M2 := MS) e1
  rw [un_nil] at hl
  subst hl
  have hlen := run_len _ e1
  have hM1 : ∀ i, i < 2 → Mget M1 i = Mget MS i := fun i hi => hsame i (by show i < 3; omega) (hnw i hi)
  have hcall := (allOK hE htbl n).call f args ch MS [] .nil _ M1 ch1 obs1 _ e1 hL (fun j => j < 3) ρ w (fun b => b < 2) w (fun r ρ' w' => r = v ∧ Ext 3 M1.length ρ ρ' ∧ At arS w (fun b => b < 2) w' ρ' M1) (fun n hn => .inl (by show n < 3; omega)) hA hsc (clL_sc _ hargs)
    (fun ρ' w' a b c d => ⟨rfl, a, b⟩) (fun e w' => e = .returned (u.den ρ0) ∧ Below w.heap.size w w') fun r ρ' w' x hx hk2 => ?_
  · rw [hden] at hcall; exact hcall
  obtain ⟨er, hE2, hA2⟩ := hk2
  have hxu : x = u := by
    have h5 : r.l = [x] := by rw [hx]
    rw [er, e3] at h5
    exact ((List.cons.inj h5).1).symm
  refine ⟨by rw [hxu, V.cl_den hU], hA2.upd.os, hA2.upd.tape, hA2.upd.output, hA2.upd.size, fun b hb => ?_⟩
  by_cases c : b < 2
  · have h4 : 3 ≤ M1.length := hlen
    obtain ⟨F, g1, _⟩ := OwnN.step hA2 (i := b) (by omega)
    rw [hM1 b c] at g1
    have hb' : ρ' b = ρ b := hE2 b (.inl (by omega))
    match b, c, g1, hb' with
    | 0, _, g1, hb' =>
      have g1 : w'.heap[0]? = some (objOf (ρ' 0)) := g1.2.2
      rw [g1, hb', hρ1, o1]; rfl
    | 1, _, g1, hb' =>
      have g1 : w'.heap[1]? = some (objOf (ρ' 1)) := g1.2.2
      rw [g1, hb', hρ2, o2]; rfl
  · exact hA2.upd.block b hb c
end Go.Proofs.YthdnonoheochhaaGreatDoor
namespace Go.Proofs.YthdnonoheochhaaGreatDoor
open Go Go.RowKit
set_option linter.unusedVariables false
set_option maxRecDepth 100000
def pickF (a n : Int) : Int := Int.tmod (match ilt a 0 with | true => Int.neg (Int.add a 1) | false => a) n
theorem pickF_rg (a : Int) {n : Int} (hn : 0 < n) : 0 ≤ pickF a n ∧ pickF a n < n := by
  unfold pickF
  have h0 : 0 ≤ (match ilt a 0 with | true => Int.neg (Int.add a 1) | false => a) := by
    rw [ilt_dec]
    by_cases h : a < 0
    · rw [decide_eq_true h]
      show 0 ≤ -(a + 1)
      omega
    · rw [decide_eq_false h]
      show 0 ≤ a
      omega
  exact ⟨Int.tmod_nonneg _ h0, Int.tmod_lt_of_pos _ hn⟩
theorem pk_run0 (a : Int) : runD Tryz.prog kofS tb0 100 8 [.int true .i64 a, .int true .i64 4294967296] [false] = some ([(!ieq 4294967296 0, true), (ilt a 0, false)], [.int true .i64 (Int.tmod a 4294967296)]) := by kernel_rfl
theorem pk_run1 (a : Int) : runD Tryz.prog kofS tb0 100 8 [.int true .i64 a, .int true .i64 4294967296] [true] = some ([(!ieq 4294967296 0, true), (inR (Int.neg (wrI (Int.add a 1))), true), (ilt a 0, true)], [.int true .i64 (Int.tmod (Int.neg (wrI (Int.add a 1))) 4294967296)]) := by kernel_rfl
theorem wrI_in {n : Int} (h1 : -9223372036854775808 ≤ n) (h2 : n ≤ 9223372036854775807) : wrI n = n := inR_wrap (inR_iff.2 ⟨h1, h2⟩)
theorem wrI_rg (n : Int) : inR (wrI n) = true := by
  rw [inR_iff]
  unfold wrI
  simp [IntKind.wrap, IntKind.bits, IntKind.signed]
  omega
theorem pk_hit (a : Int) (w : World) (ha : inR a = true) : Calls Tryz.prog 8 #[.int .i64 a, .int .i64 4294967296] w fun e w' => e = .returned (.int .i64 (pickF a 4294967296)) ∧ Below w.heap.size w w' := by
  rw [inR_iff] at ha
  unfold pickF
  cases h : ilt a 0 with
  | true =>
    have h1 := h
    rw [ilt_dec] at h1
    have h1 := of_decide_eq_true h1
    have hr := pk_run1 a
    rw [show wrI (Int.add a 1) = Int.add a 1 from wrI_in (by show _ ≤ a + 1; omega) (by show a + 1 ≤ _; omega)] at hr
    refine vm_data (ar := arW) (args := [.int true .i64 a, .int true .i64 4294967296]) entr noT_ok rfl rfl hr ?_ w
    refine okO_cons rfl (okO_cons (inR_t ?_ ?_) (okO_cons h okO_nil))
    · show _ ≤ -(a + 1); omega
    · show -(a + 1) ≤ _; omega
  | false =>
    refine vm_data (ar := arW) (args := [.int true .i64 a, .int true .i64 4294967296]) entr noT_ok rfl rfl (pk_run0 a) ?_ w
    exact okO_cons rfl (okO_cons h okO_nil)
def pkC (args : List V) : T Nat := match args with
  | [.int _ .i64 a, .int _ .i64 n] => .need (inR a && ieq n 4294967296) (.new .none fun N => .ret (rv (.sq N 0)))
  | _ => .fail 9080
theorem pkC_ok (args : List V) : CallOK arS Tryz.prog 8 args (pkC args) := by
  intro ch M obs lg r M' ch' obs' lg' hr ho B ρ w0 D w K hB hA hM hs hK Q hQ
  unfold pkC at hr
  split at hr
  · rename_i s1 a s2 n
    have hc := need_ok hr ho
    simp only [Bool.and_eq_true, ieq_dec, decide_eq_true_eq] at hc
    obtain ⟨hc, rfl⟩ := hc
    simp only [T.run] at hr
    cases hr
    have hB' : ∀ n, B n → n < M.length ∨ M.length + 1 ≤ n := fun n hn => by have := hB n hn; simpa using this
    refine Calls.mono (show Calls Tryz.prog 8 (denL ρ [.int s1 .i64 a, .int s2 .i64 4294967296]).toArray w _ from pk_hit a w hc) fun ev w' hw => ?_
    obtain ⟨rfl, hbel⟩ := hw
    have hat := hA.mk hB' hM (p := .none) (v := .int .i64 (pickF a 4294967296)) (F := fun _ => False) (w' := w') (fun b hb => hb) (fun b hb => hb.elim) hbel
    have hp := pickF_rg a (n := 4294967296) (by decide)
    have ed : (V.sq M.length 0).den (upE ρ M.length (.int .i64 (pickF a 4294967296))) = .int .i64 (pickF a 4294967296) := by
      simp only [V.den, upE, if_true, intOf]
      congr 1
      omega
    rw [← ed]
    exact hQ _ _ _ _ rfl (hK _ _ (by rw [List.length_append]; exact ext_one) hat ⟨⟨.inr ⟨Nat.le_refl _, by simp⟩, trivial⟩, trivial, fun m hm => by cases hm⟩ (scM_new hM trivial))
  · cases hr
def kofX (t : TypeId) : Option (Nat × Bool) := match kofS t with
  | some (0, s) => some (0, s)
  | some (k, _) => some (k, true)
  | none => none
theorem entrX : Entr Tryz.prog kofX where
  mixed := entr.mixed
  name := entr.name
  keys := by
    intro t kd s h
    unfold kofX at h
    split at h
    · rename_i s0 h0
      cases h
      exact keyOK t 0 _ h0
    · rename_i k s0 _ h0
      cases h
      exact keyOK t _ _ h0
    · cases h
def kofY (t : TypeId) : Option (Nat × Bool) := match Nat.beq t 3 with
  | true => some (0, true)
  | false => kofX t
theorem entrY : Entr Tryz.prog kofY where
  mixed := entr.mixed
  name := entr.name
  keys := by
    intro t kd s h
    unfold kofY at h
    split at h
    · rename_i h0
      have h0 := Nat.eq_of_beq_eq_true h0
      subst h0
      cases h
      exact keyOK 3 0 false rfl
    · exact entrX.keys t kd s h
end Go.Proofs.YthdnonoheochhaaGreatDoor
namespace Go.Proofs.YthdnonoheochhaaGreatDoor
open Go Go.RowKit
set_option linter.unusedVariables false
set_option maxRecDepth 100000
theorem wrap_u32 (x : Int) : IntKind.u32.wrap x = x % 4294967296 := by
  simp [IntKind.wrap, IntKind.bits, IntKind.signed]
theorem wrap_i32 (x : Int) : IntKind.i32.wrap x = if x % 4294967296 < 2147483648 then x % 4294967296 else x % 4294967296 - 4294967296 := by
  simp [IntKind.wrap, IntKind.bits, IntKind.signed]
  omega
def sqM (x : Int) : Int := Int.emod x 4294967296
def dfF (d : Int) : Int := match ilt (sqM d) 2147483648 with
  | true => sqM d
  | false => Int.sub (sqM d) 4294967296
theorem sa_run (a n : Int) : runD Tryz.prog kofS tb0 100 36 [.int true .i64 a, .int true .i64 n] [] = some ([(inR (IntKind.u32.wrap (IntKind.u32.wrap a + IntKind.u32.wrap n)), true)], [.int true .i64 (IntKind.u32.wrap (IntKind.u32.wrap a + IntKind.u32.wrap n))]) := by kernel_rfl
theorem sd_run (a n : Int) : runD Tryz.prog kofS tb0 100 75 [.int true .i64 a, .int true .i64 n] [] = some ([(inR (IntKind.i32.wrap (IntKind.u32.wrap (IntKind.u32.wrap a - IntKind.u32.wrap n))), true)], [.int true .i64 (IntKind.i32.wrap (IntKind.u32.wrap (IntKind.u32.wrap a - IntKind.u32.wrap n)))]) := by kernel_rfl
theorem sa_hit (a n : Int) (w : World) : Calls Tryz.prog 36 #[.int .i64 a, .int .i64 n] w fun e w' => e = .returned (.int .i64 (sqM (a + n))) ∧ Below w.heap.size w w' := by
  have e : IntKind.u32.wrap (IntKind.u32.wrap a + IntKind.u32.wrap n) = sqM (a + n) := by
    simp only [wrap_u32]
    show _ = (a + n) % 4294967296
    omega
  have h := sa_run a n
  rw [e] at h
  exact vm_data (ar := arW) (args := [.int true .i64 a, .int true .i64 n]) entr noT_ok rfl rfl h (okO_cons (inR_t (by show _ ≤ (a + n) % 4294967296; omega) (by show (a + n) % 4294967296 ≤ _; omega)) okO_nil) w
theorem dfF_eq (d : Int) : dfF d = if d % 4294967296 < 2147483648 then d % 4294967296 else d % 4294967296 - 4294967296 := by
  unfold dfF
  rw [ilt_dec]
  show (match decide (d % 4294967296 < 2147483648) with | true => d % 4294967296 | false => d % 4294967296 - 4294967296) = _
  by_cases h : d % 4294967296 < 2147483648
  · rw [decide_eq_true h, if_pos h]
  · rw [decide_eq_false h, if_neg h]
theorem sd_hit (a n : Int) (w : World) : Calls Tryz.prog 75 #[.int .i64 a, .int .i64 n] w fun e w' => e = .returned (.int .i64 (dfF (a - n))) ∧ Below w.heap.size w w' := by
  have e : IntKind.i32.wrap (IntKind.u32.wrap (IntKind.u32.wrap a - IntKind.u32.wrap n)) = dfF (a - n) := by
    rw [dfF_eq]
    simp only [wrap_u32, wrap_i32]
    have h1 : (a % 4294967296 - n % 4294967296) % 4294967296 % 4294967296 = (a - n) % 4294967296 := by omega
    rw [h1]
  have h := sd_run a n
  rw [e] at h
  refine vm_data (ar := arW) (args := [.int true .i64 a, .int true .i64 n]) entr noT_ok rfl rfl h (okO_cons (inR_t ?_ ?_) okO_nil) w
  · rw [dfF_eq]; split <;> omega
  · rw [dfF_eq]; split <;> omega
def saC (args : List V) : T Nat := match args with
  | [.sq n o, .int _ .i64 k] => .ret (rv (.sq n (Int.add o k)))
  | [.int s .i64 a, .int z .i64 k] => (match s with
    | true => .new (.abs 3 [.int true .i64 a]) fun N => .ret (rv (.sq N k))
    | false => .ret (rv (.int z .i64 (sqM (Int.add a k)))))
  | _ => .fail 9040
theorem saC_ok (args : List V) : CallOK arS Tryz.prog 36 args (saC args) := by
  intro ch M obs lg r M' ch' obs' lg' hr ho B ρ w0 D w K hB hA hM hs hK Q hQ
  unfold saC at hr
  split at hr
  · rename_i n o s k
    cases hr
    refine call_ret (v := .sq n (Int.add o k)) hA hM hs.1 hK hQ ?_
    have h := sa_hit ((intOf (ρ n) + o) % 4294967296) k w
    have e : sqM ((intOf (ρ n) + o) % 4294967296 + k) = (intOf (ρ n) + Int.add o k) % 4294967296 := by
      show ((intOf (ρ n) + o) % 4294967296 + k) % 4294967296 = (intOf (ρ n) + (o + k)) % 4294967296
      omega
    rw [e] at h
    exact h
  · rename_i s a z k
    split at hr
    · simp only [T.run] at hr
      cases hr
      have hB' : ∀ n, B n → n < M.length ∨ M.length + 1 ≤ n := fun n hn => by have := hB n hn; simpa using this
      refine Calls.mono (show Calls Tryz.prog 36 (denL ρ [.int true .i64 a, .int z .i64 k]).toArray w _ from sa_hit a k w) fun ev w' hw => ?_
      obtain ⟨rfl, hbel⟩ := hw
      have hat := hA.mk hB' hM (p := .abs 3 [.int true .i64 a]) (v := .int .i64 a) (F := fun _ => False) (w' := w')
        (by
          show (onlyR (denL _ [V.int true .i64 a] = [upE ρ M.length _ M.length])).P w' _
          exact ⟨fun b hb => hb, by simp only [denL, V.den, upE, if_true]⟩)
        (fun b hb => hb.elim) hbel
      have ed : (V.sq M.length k).den (upE ρ M.length (.int .i64 a)) = .int .i64 (sqM (a + k)) := by
        simp only [V.den, upE, if_true, intOf]
        rfl
      rw [← ed]
      exact hQ _ _ _ _ rfl (hK _ _ (by rw [List.length_append]; exact ext_one) hat ⟨⟨.inr ⟨Nat.le_refl _, by simp⟩, trivial⟩, trivial, fun m hm => by cases hm⟩ (scM_new hM ⟨trivial, trivial⟩))
    · cases hr
      exact call_ret (v := .int z .i64 (sqM (Int.add a k))) hA hM trivial hK hQ (sa_hit a k w)
  · cases hr
def sdC (args : List V) : T Nat := match args with
  | [.sq n o, .sq n' o'] => (match Nat.beq n n' with
    | true => .ret (rv (.int false .i64 (dfF (Int.sub o o'))))
    | false => .fail 9041)
  | [.int false .i64 a, .int false .i64 k] => .ret (rv (.int false .i64 (dfF (Int.sub a k))))
  | _ => .fail 9042
theorem sdC_ok (args : List V) : CallOK arS Tryz.prog 75 args (sdC args) := by
  intro ch M obs lg r M' ch' obs' lg' hr ho B ρ w0 D w K hB hA hM hs hK Q hQ
  unfold sdC at hr
  split at hr
  · rename_i n o n' o'
    split at hr
    · rename_i hn
      obtain rfl := Nat.eq_of_beq_eq_true hn
      cases hr
      refine call_ret (v := .int false .i64 (dfF (Int.sub o o'))) hA hM trivial hK hQ ?_
      have h := sd_hit ((intOf (ρ n) + o) % 4294967296) ((intOf (ρ n) + o') % 4294967296) w
      have e : dfF ((intOf (ρ n) + o) % 4294967296 - (intOf (ρ n) + o') % 4294967296) = dfF (Int.sub o o') := by
        rw [dfF_eq, dfF_eq]
        have h1 : ((intOf (ρ n) + o) % 4294967296 - (intOf (ρ n) + o') % 4294967296) % 4294967296 = (Int.sub o o') % 4294967296 := by
          show _ = (o - o') % 4294967296
          omega
        rw [h1]
      rw [e] at h
      exact h
    · cases hr
  · rename_i a k
    cases hr
    exact call_ret (v := .int false .i64 (dfF (Int.sub a k))) hA hM trivial hK hQ (sd_hit a k w)
  · cases hr
theorem sv_run (a : Int) : runD Tryz.prog kofS tb0 100 93 [.int true .i64 a] [true, true, true] = some ([(!ilt a 0, true), (!ilt a 0, true), (!ilt a 0, true)], [.bool true (!ilt 4294967295 a)]) := by kernel_rfl
def svC (args : List V) : T Nat := match args with
  | [.sq _ _] => .ret (rv (.bool false true))
  | [.int s .i64 a] => .need (rgI 0 4294967295 a) (.ret (rv (.bool false true)))
  | _ => .fail 9043
theorem sv_hit (a : Int) (w : World) (h0 : 0 ≤ a) (h1 : a ≤ 4294967295) : Calls Tryz.prog 93 #[.int .i64 a] w fun e w' => e = .returned (.bool true) ∧ Below w.heap.size w w' :=
  vl_end (not_ilt h1) (vm_data (ar := arW) (args := [.int true .i64 a]) entr noT_ok rfl rfl (sv_run a) (okO_cons (not_ilt h0) (okO_cons (not_ilt h0) (okO_cons (not_ilt h0) okO_nil))) w)
theorem svC_ok (args : List V) : CallOK arS Tryz.prog 93 args (svC args) := by
  intro ch M obs lg r M' ch' obs' lg' hr ho B ρ w0 D w K hB hA hM hs hK Q hQ
  unfold svC at hr
  split at hr
  · rename_i n o
    cases hr
    exact call_ret (v := .bool false true) hA hM trivial hK hQ (sv_hit _ w (by omega) (by omega))
  · rename_i s a
    have hc := need_ok hr ho
    simp only [T.run] at hr
    cases hr
    rw [rgI_iff] at hc
    exact call_ret (v := .bool false true) hA hM trivial hK hQ (sv_hit _ w hc.1 hc.2)
  · cases hr
def numN (v : V) : Option Int := match v with
  | .int _ .i64 n => some n
  | .sq _ _ => some 0
  | _ => none
def isSq (v : V) : Bool := match v with
  | .sq _ _ => true
  | _ => false
def valN (ρ : En) (v : V) : Int := match v with
  | .int _ .i64 n => n
  | .sq n o => (intOf (ρ n) + o) % 4294967296
  | _ => 0
def sgB (l : List V) : Option Bool := match l with
  | [.int _ .i64 fp, .int _ .i64 tp, sq, ak, .bool _ sy, .bool _ fi, .bool _ rs, .bool _ ha, .int _ .i64 wn, .int _ .i64 ms, .bool _ sa, .lit (.slice none 0 0), .str _ d] => (match numN sq, numN ak with
    | some q, some k => some ((Sg.mk fp tp q k sy fi rs ha wn ms sa d).okB && (!isSq ak || ha))
    | _, _ => none)
  | _ => none
theorem numN_den {v : V} {q : Int} (h : numN v = some q) (ρ : En) : v.den ρ = .int .i64 (valN ρ v) ∧ (isSq v = false → valN ρ v = q) ∧ (isSq v = true → 0 ≤ valN ρ v ∧ valN ρ v ≤ 4294967295) := by
  unfold numN at h
  split at h
  · cases h
    exact ⟨rfl, fun _ => rfl, fun h => (by cases h)⟩
  · exact ⟨rfl, fun h => (by cases h), fun _ => ⟨by show 0 ≤ _ % 4294967296; omega, by show _ % 4294967296 ≤ _; omega⟩⟩
  · cases h
theorem sgB_den {l : List V} (h : sgB l = some true) (ρ : En) : ∃ s : Sg, s.ok ∧ denL ρ l = s.cells := by
  unfold sgB at h
  split at h
  case h_2 => cases h
  rename_i _ fp _ tp sq ak _ sy _ fi _ rs _ ha _ wn _ ms _ sa _ d
  split at h
  case h_2 => cases h
  rename_i q k hq hk
  simp only [Option.some.injEq, Bool.and_eq_true, Bool.or_eq_true, Bool.not_eq_true'] at h
  obtain ⟨h1, h2⟩ := h
  have h1 := Sg.ok_iff.1 h1
  obtain ⟨dq, eq1, eq2⟩ := numN_den hq ρ
  obtain ⟨dk, ek1, ek2⟩ := numN_den hk ρ
  have rq : 0 ≤ valN ρ sq ∧ valN ρ sq ≤ 4294967295 := by
    cases c : isSq sq with
    | true => exact eq2 c
    | false => rw [eq1 c]; exact h1.sq
  have rk : 0 ≤ valN ρ ak ∧ valN ρ ak ≤ 4294967295 := by
    cases c : isSq ak with
    | true => exact ek2 c
    | false => rw [ek1 c]; exact h1.ak
  refine ⟨⟨fp, tp, valN ρ sq, valN ρ ak, sy, fi, rs, ha, wn, ms, sa, d⟩, ⟨h1.fp, h1.tp, rq, rk, fun hh => ?_, h1.wn, h1.sy, h1.ns, h1.rs, h1.d⟩, ?_⟩
  · have hh : ha = false := hh
    rcases h2 with c | c
    · show valN ρ ak = 0
      rw [ek1 c]
      exact h1.ha hh
    · rw [hh] at c; cases c
  · simp only [denL, V.den, Sg.cells, dq, dk]
theorem sgB_sc {l : List V} {A : Nat → Prop} {x y : V} (h : scL A [x, y, .agg l]) : scL A l := h.2.2.1
def sgEq (args : List V) : T Nat := match args with
  | [.int _ .i64 a, .int _ .i64 b, .agg l] => (match sgB l with
    | some c => .need (c && (rgI 0 4294967295 a && rgI 0 4294967295 b)) (.new (.abs 0 (.int false .i64 a :: .int false .i64 b :: l)) fun N => .ret (rv (.tup [.ns N, .int false .i64 0])))
    | none => .fail 9044)
  | _ => .fail 9045
theorem sgEq_ok (args : List V) : CallOK arS Tryz.prog 10 args (sgEq args) := by
  intro ch M obs lg r M' ch' obs' lg' hr ho B ρ w0 D w K hB hA hM hs hK Q hQ
  unfold sgEq at hr
  split at hr
  case h_2 => cases hr
  rename_i s1 a s2 b l
  split at hr
  case h_2 => cases hr
  rename_i c hsg
  have hc := need_ok hr ho
  simp only [T.run] at hr
  cases hr
  simp only [Bool.and_eq_true, rgI_iff] at hc
  obtain ⟨h1, h2, h3⟩ := hc
  subst h1
  obtain ⟨s, hok, hden⟩ := sgB_den hsg ρ
  refine Calls.mono (show Calls Tryz.prog 10 (denL ρ [.int s1 .i64 a, .int s2 .i64 b, .agg l]).toArray w _ from by
    simp only [denL, V.den, hden]
    exact en_hit a b s w hok h2.1 h2.2 h3.1 h3.2) fun ev w' hw => ?_
  obtain ⟨rfl, hbel⟩ := hw
  have hB' : ∀ n, B n → n < M.length ∨ M.length + 1 ≤ n := fun n hn => by have := hB n hn; simpa using this
  have hsl : scL B l := sgB_sc hs
  have hl : denL (upE ρ M.length (.string (encS a b s))) (.int false .i64 a :: .int false .i64 b :: l) = .int .i64 a :: .int .i64 b :: s.cells := by
    have := denL_eq (A := B) (ρ := ρ) (ρ' := upE ρ M.length (.string (encS a b s))) (fun j hj => if_neg (by have := hB' j hj; omega)) l hsl
    simp only [denL, V.den, this, hden]
  have hat := hA.mk hB' hM (p := .abs 0 (.int false .i64 a :: .int false .i64 b :: l)) (v := .string (encS a b s)) (F := fun _ => False) (w' := w')
    (by
      show (onlyR (segV (denL _ (.int false .i64 a :: .int false .i64 b :: l)) (upE ρ M.length _ M.length))).P w' _
      rw [hl]
      exact ⟨fun b hb => hb, a, b, s, hok, h2, h3, rfl, by simp only [upE, if_true]⟩)
    (fun b hb => hb.elim) hbel
  refine (show Q (.returned ((V.tup [.ns M.length, .int false .i64 0]).den (upE ρ M.length (.string (encS a b s))))) w' → _ from fun h => by simpa [V.den, denL, upE, strOf] using h) ?_
  exact hQ _ _ _ _ rfl (hK _ _ (by rw [List.length_append]; exact ext_one) hat ⟨⟨⟨.inr ⟨Nat.le_refl _, by simp⟩, trivial, trivial⟩, trivial⟩, trivial, fun m hm => by cases hm⟩ (scM_new hM ⟨trivial, trivial, hsl⟩))
def tblQ : FuncId → Option (List V → T Nat) := addT (addT (addT (addT (addT (addT noT 10 sgEq) 11 sgDe) 8 pkC) 36 saC) 75 sdC) 93 svC
theorem tblQ_ok : TblOK arS Tryz.prog tblQ := addT_ok (addT_ok (addT_ok (addT_ok (addT_ok (addT_ok noT_ok sgEq_ok) sgDe_ok) pkC_ok) saC_ok) sdC_ok) svC_ok
end Go.Proofs.YthdnonoheochhaaGreatDoor
namespace Go.Proofs.YthdnonoheochhaaGreatDoor
open Go Go.RowKit
set_option linter.unusedVariables false
set_option maxRecDepth 100000
def rg31 (d : Int) : Bool := !ilt d (-2147483648) && ilt d 2147483648
theorem dfF_rg {d : Int} (h : rg31 d = true) : dfF d = d := by
  unfold rg31 at h
  simp only [ilt_dec, Bool.and_eq_true, Bool.not_eq_true', decide_eq_false_iff_not, decide_eq_true_eq] at h
  rw [dfF_eq]
  split <;> omega
def sdO (args : List V) : T Nat := match args with
  | [.sq n o, .sq n' o'] => (match Nat.beq n n' with
    | true => .need (rg31 (Int.sub o o')) (.ret (rv (.int true .i64 (Int.sub o o'))))
    | false => .fail 9043)
  | _ => sdC args
theorem sdO_ok (args : List V) : CallOK arS Tryz.prog 75 args (sdO args) := by
  unfold sdO
  split
  · rename_i n o n' o'
    intro ch M obs lg r M' ch' obs' lg' hr ho B ρ w0 D w K hB hA hM hs hK Q hQ
    split at hr
    · rename_i hn
      obtain rfl := Nat.eq_of_beq_eq_true hn
      obtain ⟨hd, hr⟩ := need_run hr ho
      cases hr
      refine call_ret (v := .int true .i64 (Int.sub o o')) hA hM trivial hK hQ ?_
      have h := sd_hit ((intOf (ρ n) + o) % 4294967296) ((intOf (ρ n) + o') % 4294967296) w
      have e : dfF ((intOf (ρ n) + o) % 4294967296 - (intOf (ρ n) + o') % 4294967296) = Int.sub o o' := by
        rw [← dfF_rg hd, dfF_eq, dfF_eq]
        have h1 : ((intOf (ρ n) + o) % 4294967296 - (intOf (ρ n) + o') % 4294967296) % 4294967296 = (Int.sub o o') % 4294967296 := by
          show _ = (o - o') % 4294967296
          omega
        rw [h1]
      rw [e] at h
      exact h
    · cases hr
  · exact sdC_ok args
noncomputable def tblO : FuncId → Option (List V → T Nat) := addT tblQ 75 sdO
theorem tblO_ok : TblOK arS Tryz.prog tblO := addT_ok tblQ_ok sdO_ok
end Go.Proofs.YthdnonoheochhaaGreatDoor
namespace Go.Proofs.YthdnonoheochhaaGreatDoor
open Go Go.RowKit
set_option linter.unusedVariables false
set_option maxRecDepth 100000
def isT (v : V) : Bool := match v with
  | .bool _ b => b
  | _ => false
theorem ex_run : runF (fun _ => false) ((evF Tryz.prog kofS tblO 400).call 4 [] rt) [] 3 (trM 0 MS .z) [] 0 0 (endW isT 7) = true := by kernel_rfl
def intsF : List V → List Int → Bool
  | [], [] => true
  | .int false .i64 n :: l, m :: k => (match ieq n m with
    | true => intsF l k
    | false => false)
  | _, _ => false
theorem intsF_eq : ∀ {l : List V} {k : List Int}, intsF l k = true → l = k.map fun n => .int false .i64 n
  | l, k, h => by
    unfold intsF at h
    split at h
    · rfl
    · split at h
      · rename_i hn
        rw [ieq_dec] at hn
        have := of_decide_eq_true hn
        subst this
        simp only [List.map_cons]
        rw [← intsF_eq h]
      · cases h
    · cases h
def triN : List Int := triS.map fun v => match v with
  | .int _ _ n => n
  | _ => 0
def chk0 (p : Pl Nat) : Bool := match p with
  | .glb 0 [.ifc 260 (.nm 2)] 0 => true
  | _ => false
def chk1 (p : Pl Nat) : Bool := match p with
  | .glb 1 l 0 => intsF l triN
  | _ => false
def chk2 (p : Pl Nat) : Bool := match p with
  | .none => true
  | _ => false
def chkS (i : Nat) (p : Pl Nat) : Bool := match i with
  | 0 => chk0 p
  | 1 => chk1 p
  | _ => chk2 p
theorem chkS_ok (i : Nat) (p : Pl Nat) (hi : i < 3) (h : chkS i p = true) : p = Mget MS i := by
  match i, hi with
  | 0, _ =>
    have h : chk0 p = true := h
    unfold chk0 at h
    split at h
    · rfl
    · cases h
  | 1, _ =>
    have h : chk1 p = true := h
    unfold chk1 at h
    split at h
    · rw [intsF_eq h]
      rfl
    · cases h
  | 2, _ =>
    have h : chk2 p = true := h
    unfold chk2 at h
    split at h
    · rfl
    · cases h
def exC (args : List V) : T Nat := clsC chkS (.bool false true) 3 args
theorem exC_ok (args : List V) : CallOK arS Tryz.prog 4 args (exC args) :=
  clsC_ok entr tblO_ok (MS := MS) (len := 3) (tr := trM 0 MS .z) (tri_of MS (by decide)) (by decide) chkS_ok MS_rest MS_sc rfl (Z := isT) (fun u hu ρ => by
    unfold isT at hu
    split at hu
    · subst hu; rfl
    · cases hu) ex_run args
noncomputable def tblR : FuncId → Option (List V → T Nat) := addT tblO 4 exC
theorem tblR_ok : TblOK arS Tryz.prog tblR := addT_ok tblO_ok exC_ok
end Go.Proofs.YthdnonoheochhaaGreatDoor
