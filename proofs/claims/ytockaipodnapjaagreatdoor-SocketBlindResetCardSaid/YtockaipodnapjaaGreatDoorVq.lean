/- A machine of symbolic values: the text of law 24; connected as such a call. -/
import Derived.Test.YtockaipodnapjaaGreatDoorVr
import Derived.Test.YtockaipodnapjaaGreatDoorVn
import Derived.Test.YtockaipodnapjaaGreatDoorVc
namespace Go.Proofs.YtockaipodnapjaaGreatDoor
open Go Go.RowKit
set_option linter.unusedVariables false
set_option maxRecDepth 100000
def txG (args : List V) : Option (Bool × V) := match args with
  | [.int _ .i64 n, .int _ .i64 k] => some (rgI 0 2000 n && rgI 0 1000 k, .str true ⟨(textL n.toNat k).toArray⟩)
  | _ => none
theorem txG_hit (args : List V) (c : Bool) (v : V) (h : txG args = some (c, v)) (hc : c = true) : v.cl = true ∧ ∀ ρ w, Calls Tryz.prog 12 (denL ρ args).toArray w fun e w' => e = .returned (v.den ρ) ∧ Below w.heap.size w w' := by
  unfold txG at h
  split at h
  case h_2 => cases h
  rename_i s1 n s2 k
  simp only [Option.some.injEq, Prod.mk.injEq] at h
  obtain ⟨h1, rfl⟩ := h
  have h1 := h1.trans hc
  simp only [Bool.and_eq_true, rgI_iff] at h1
  obtain ⟨⟨a1, a2⟩, b1, b2⟩ := h1
  refine ⟨rfl, fun ρ w => ?_⟩
  have h2 := text_r n.toNat k (by omega) b1 b2 w
  rw [Int.toNat_of_nonneg a1] at h2
  exact h2
end Go.Proofs.YtockaipodnapjaaGreatDoor
namespace Go.Proofs.YtockaipodnapjaaGreatDoor
open Go Go.RowKit
set_option linter.unusedVariables false
set_option maxRecDepth 100000
theorem wrap_u32 (x : Int) : IntKind.u32.wrap x = x % 4294967296 := by
  simp [IntKind.wrap, IntKind.bits, IntKind.signed]
theorem wrap_i32 (x : Int) : IntKind.i32.wrap x = if x % 4294967296 < 2147483648 then x % 4294967296 else x % 4294967296 - 4294967296 := by
  simp [IntKind.wrap, IntKind.bits, IntKind.signed]
  omega
def sqM (x : Int) : Int := Int.emod x 4294967296
def dfF (d : Int) : Int := match ilt (sqM d) 2147483648 with
  | true => sqM d
  | false => Int.sub (sqM d) 4294967296
theorem sa_run (a n : Int) : runD Tryz.prog kofS tb0 100 19 [.int true .i64 a, .int true .i64 n] [] = some ([(inR (IntKind.u32.wrap (IntKind.u32.wrap a + IntKind.u32.wrap n)), true)], [.int true .i64 (IntKind.u32.wrap (IntKind.u32.wrap a + IntKind.u32.wrap n))]) := by kernel_rfl
theorem sd_run (a n : Int) : runD Tryz.prog kofS tb0 100 162 [.int true .i64 a, .int true .i64 n] [] = some ([(inR (IntKind.i32.wrap (IntKind.u32.wrap (IntKind.u32.wrap a - IntKind.u32.wrap n))), true)], [.int true .i64 (IntKind.i32.wrap (IntKind.u32.wrap (IntKind.u32.wrap a - IntKind.u32.wrap n)))]) := by kernel_rfl
theorem sa_hit (a n : Int) (w : World) : Calls Tryz.prog 19 #[.int .i64 a, .int .i64 n] w fun e w' => e = .returned (.int .i64 (sqM (a + n))) ∧ Below w.heap.size w w' := by
  have e : IntKind.u32.wrap (IntKind.u32.wrap a + IntKind.u32.wrap n) = sqM (a + n) := by
    simp only [wrap_u32]
    show _ = (a + n) % 4294967296
    omega
  have h := sa_run a n
  rw [e] at h
  exact vm_data (ar := arW) (args := [.int true .i64 a, .int true .i64 n]) entr noT_ok rfl rfl h (okO_cons (inR_t (by show _ ≤ (a + n) % 4294967296; omega) (by show (a + n) % 4294967296 ≤ _; omega)) okO_nil) w
theorem dfF_eq (d : Int) : dfF d = if d % 4294967296 < 2147483648 then d % 4294967296 else d % 4294967296 - 4294967296 := by
  unfold dfF
  rw [ilt_dec]
  show (match decide (d % 4294967296 < 2147483648) with | true => d % 4294967296 | false => d % 4294967296 - 4294967296) = _
  by_cases h : d % 4294967296 < 2147483648
  · rw [decide_eq_true h, if_pos h]
  · rw [decide_eq_false h, if_neg h]
theorem sd_hit (a n : Int) (w : World) : Calls Tryz.prog 162 #[.int .i64 a, .int .i64 n] w fun e w' => e = .returned (.int .i64 (dfF (a - n))) ∧ Below w.heap.size w w' := by
  have e : IntKind.i32.wrap (IntKind.u32.wrap (IntKind.u32.wrap a - IntKind.u32.wrap n)) = dfF (a - n) := by
    rw [dfF_eq]
    simp only [wrap_u32, wrap_i32]
    have h1 : (a % 4294967296 - n % 4294967296) % 4294967296 % 4294967296 = (a - n) % 4294967296 := by omega
    rw [h1]
  have h := sd_run a n
  rw [e] at h
  refine vm_data (ar := arW) (args := [.int true .i64 a, .int true .i64 n]) entr noT_ok rfl rfl h (okO_cons (inR_t ?_ ?_) okO_nil) w
  · rw [dfF_eq]; split <;> omega
  · rw [dfF_eq]; split <;> omega
def saC (args : List V) : T Nat := match args with
  | [.sq n o, .int _ .i64 k] => .ret (rv (.sq n (Int.add o k)))
  | [.int s .i64 a, .int z .i64 k] => (match s with
    | true => .new (.abs 3 [.int true .i64 a]) fun N => .ret (rv (.sq N k))
    | false => .ret (rv (.int z .i64 (sqM (Int.add a k)))))
  | _ => .fail 9040
theorem saC_ok (args : List V) : CallOK arS Tryz.prog 19 args (saC args) := by
  intro ch M obs lg r M' ch' obs' lg' hr ho B ρ w0 D w K hB hA hM hs hK Q hQ
  unfold saC at hr
  split at hr
  · rename_i n o s k
    cases hr
    refine call_ret (v := .sq n (Int.add o k)) hA hM hs.1 hK hQ ?_
    have h := sa_hit ((intOf (ρ n) + o) % 4294967296) k w
    have e : sqM ((intOf (ρ n) + o) % 4294967296 + k) = (intOf (ρ n) + Int.add o k) % 4294967296 := by
      show ((intOf (ρ n) + o) % 4294967296 + k) % 4294967296 = (intOf (ρ n) + (o + k)) % 4294967296
      omega
    rw [e] at h
    exact h
  · rename_i s a z k
    split at hr
    · simp only [T.run] at hr
      cases hr
      have hB' : ∀ n, B n → n < M.length ∨ M.length + 1 ≤ n := fun n hn => by have := hB n hn; simpa using this
      refine Calls.mono (show Calls Tryz.prog 19 (denL ρ [.int true .i64 a, .int z .i64 k]).toArray w _ from sa_hit a k w) fun ev w' hw => ?_
      obtain ⟨rfl, hbel⟩ := hw
      have hat := hA.mk hB' hM (p := .abs 3 [.int true .i64 a]) (v := .int .i64 a) (F := fun _ => False) (w' := w')
        (by
          show (onlyR (denL _ [V.int true .i64 a] = [upE ρ M.length _ M.length])).P w' _
          exact ⟨fun b hb => hb, by simp only [denL, V.den, upE, if_true]⟩)
        (fun b hb => hb.elim) hbel
      have ed : (V.sq M.length k).den (upE ρ M.length (.int .i64 a)) = .int .i64 (sqM (a + k)) := by
        simp only [V.den, upE, if_true, intOf]
        rfl
      rw [← ed]
      exact hQ _ _ _ _ rfl (hK _ _ (by rw [List.length_append]; exact ext_one) hat ⟨⟨.inr ⟨Nat.le_refl _, by simp⟩, trivial⟩, trivial, fun m hm => by cases hm⟩ (scM_new hM ⟨trivial, trivial⟩))
    · cases hr
      exact call_ret (v := .int z .i64 (sqM (Int.add a k))) hA hM trivial hK hQ (sa_hit a k w)
  · cases hr
def sdC (args : List V) : T Nat := match args with
  | [.sq n o, .sq n' o'] => (match Nat.beq n n' with
    | true => .ret (rv (.int false .i64 (dfF (Int.sub o o'))))
    | false => .fail 9041)
  | [.int false .i64 a, .int false .i64 k] => .ret (rv (.int false .i64 (dfF (Int.sub a k))))
  | _ => .fail 9042
theorem sdC_ok (args : List V) : CallOK arS Tryz.prog 162 args (sdC args) := by
  intro ch M obs lg r M' ch' obs' lg' hr ho B ρ w0 D w K hB hA hM hs hK Q hQ
  unfold sdC at hr
  split at hr
  · rename_i n o n' o'
    split at hr
    · rename_i hn
      obtain rfl := Nat.eq_of_beq_eq_true hn
      cases hr
      refine call_ret (v := .int false .i64 (dfF (Int.sub o o'))) hA hM trivial hK hQ ?_
      have h := sd_hit ((intOf (ρ n) + o) % 4294967296) ((intOf (ρ n) + o') % 4294967296) w
      have e : dfF ((intOf (ρ n) + o) % 4294967296 - (intOf (ρ n) + o') % 4294967296) = dfF (Int.sub o o') := by
        rw [dfF_eq, dfF_eq]
        have h1 : ((intOf (ρ n) + o) % 4294967296 - (intOf (ρ n) + o') % 4294967296) % 4294967296 = (Int.sub o o') % 4294967296 := by
          show _ = (o - o') % 4294967296
          omega
        rw [h1]
      rw [e] at h
      exact h
    · cases hr
  · rename_i a k
    cases hr
    exact call_ret (v := .int false .i64 (dfF (Int.sub a k))) hA hM trivial hK hQ (sd_hit a k w)
  · cases hr
theorem sv_run (a : Int) : runD Tryz.prog kofS tb0 100 79 [.int true .i64 a] [true, true, true] = some ([(!ilt a 0, true), (!ilt a 0, true), (!ilt a 0, true)], [.bool true (!ilt 4294967295 a)]) := by kernel_rfl
def svC (args : List V) : T Nat := match args with
  | [.sq _ _] => .ret (rv (.bool false true))
  | [.int s .i64 a] => .need (rgI 0 4294967295 a) (.ret (rv (.bool false true)))
  | _ => .fail 9043
theorem sv_hit (a : Int) (w : World) (h0 : 0 ≤ a) (h1 : a ≤ 4294967295) : Calls Tryz.prog 79 #[.int .i64 a] w fun e w' => e = .returned (.bool true) ∧ Below w.heap.size w w' :=
  vl_end (not_ilt h1) (vm_data (ar := arW) (args := [.int true .i64 a]) entr noT_ok rfl rfl (sv_run a) (okO_cons (not_ilt h0) (okO_cons (not_ilt h0) (okO_cons (not_ilt h0) okO_nil))) w)
theorem svC_ok (args : List V) : CallOK arS Tryz.prog 79 args (svC args) := by
  intro ch M obs lg r M' ch' obs' lg' hr ho B ρ w0 D w K hB hA hM hs hK Q hQ
  unfold svC at hr
  split at hr
  · rename_i n o
    cases hr
    exact call_ret (v := .bool false true) hA hM trivial hK hQ (sv_hit _ w (by omega) (by omega))
  · rename_i s a
    have hc := need_ok hr ho
    simp only [T.run] at hr
    cases hr
    rw [rgI_iff] at hc
    exact call_ret (v := .bool false true) hA hM trivial hK hQ (sv_hit _ w hc.1 hc.2)
  · cases hr
def numN (v : V) : Option Int := match v with
  | .int _ .i64 n => some n
  | .sq _ _ => some 0
  | _ => none
def isSq (v : V) : Bool := match v with
  | .sq _ _ => true
  | _ => false
def valN (ρ : En) (v : V) : Int := match v with
  | .int _ .i64 n => n
  | .sq n o => (intOf (ρ n) + o) % 4294967296
  | _ => 0
def sgB (l : List V) : Option Bool := match l with
  | [.int _ .i64 fp, .int _ .i64 tp, sq, ak, .bool _ sy, .bool _ fi, .bool _ rs, .bool _ ha, .int _ .i64 wn, .int _ .i64 ms, .bool _ sa, .lit (.slice none 0 0), .str _ d] => (match numN sq, numN ak with
    | some q, some k => some ((Sg.mk fp tp q k sy fi rs ha wn ms sa d).okB && (!isSq ak || ha))
    | _, _ => none)
  | _ => none
theorem numN_den {v : V} {q : Int} (h : numN v = some q) (ρ : En) : v.den ρ = .int .i64 (valN ρ v) ∧ (isSq v = false → valN ρ v = q) ∧ (isSq v = true → 0 ≤ valN ρ v ∧ valN ρ v ≤ 4294967295) := by
  unfold numN at h
  split at h
  · cases h
    exact ⟨rfl, fun _ => rfl, fun h => (by cases h)⟩
  · exact ⟨rfl, fun h => (by cases h), fun _ => ⟨by show 0 ≤ _ % 4294967296; omega, by show _ % 4294967296 ≤ _; omega⟩⟩
  · cases h
theorem sgB_den {l : List V} (h : sgB l = some true) (ρ : En) : ∃ s : Sg, s.ok ∧ denL ρ l = s.cells := by
  unfold sgB at h
  split at h
  case h_2 => cases h
  rename_i _ fp _ tp sq ak _ sy _ fi _ rs _ ha _ wn _ ms _ sa _ d
  split at h
  case h_2 => cases h
  rename_i q k hq hk
  simp only [Option.some.injEq, Bool.and_eq_true, Bool.or_eq_true, Bool.not_eq_true'] at h
  obtain ⟨h1, h2⟩ := h
  have h1 := Sg.ok_iff.1 h1
  obtain ⟨dq, eq1, eq2⟩ := numN_den hq ρ
  obtain ⟨dk, ek1, ek2⟩ := numN_den hk ρ
  have rq : 0 ≤ valN ρ sq ∧ valN ρ sq ≤ 4294967295 := by
    cases c : isSq sq with
    | true => exact eq2 c
    | false => rw [eq1 c]; exact h1.sq
  have rk : 0 ≤ valN ρ ak ∧ valN ρ ak ≤ 4294967295 := by
    cases c : isSq ak with
    | true => exact ek2 c
    | false => rw [ek1 c]; exact h1.ak
  refine ⟨⟨fp, tp, valN ρ sq, valN ρ ak, sy, fi, rs, ha, wn, ms, sa, d⟩, ⟨h1.fp, h1.tp, rq, rk, fun hh => ?_, h1.wn, h1.sy, h1.ns, h1.rs, h1.d⟩, ?_⟩
  · have hh : ha = false := hh
    rcases h2 with c | c
    · show valN ρ ak = 0
      rw [ek1 c]
      exact h1.ha hh
    · rw [hh] at c; cases c
  · simp only [denL, V.den, Sg.cells, dq, dk]
theorem sgB_sc {l : List V} {A : Nat → Prop} {x y : V} (h : scL A [x, y, .agg l]) : scL A l := h.2.2.1
def sgEq (args : List V) : T Nat := match args with
  | [.int _ .i64 a, .int _ .i64 b, .agg l] => (match sgB l with
    | some c => .need (c && (rgI 0 4294967295 a && rgI 0 4294967295 b)) (.new (.abs 0 (.int false .i64 a :: .int false .i64 b :: l)) fun N => .ret (rv (.tup [.ns N, .int false .i64 0])))
    | none => .fail 9044)
  | _ => .fail 9045
theorem sgEq_ok (args : List V) : CallOK arS Tryz.prog 20 args (sgEq args) := by
  intro ch M obs lg r M' ch' obs' lg' hr ho B ρ w0 D w K hB hA hM hs hK Q hQ
  unfold sgEq at hr
  split at hr
  case h_2 => cases hr
  rename_i s1 a s2 b l
  split at hr
  case h_2 => cases hr
  rename_i c hsg
  have hc := need_ok hr ho
  simp only [T.run] at hr
  cases hr
  simp only [Bool.and_eq_true, rgI_iff] at hc
  obtain ⟨h1, h2, h3⟩ := hc
  subst h1
  obtain ⟨s, hok, hden⟩ := sgB_den hsg ρ
  refine Calls.mono (show Calls Tryz.prog 20 (denL ρ [.int s1 .i64 a, .int s2 .i64 b, .agg l]).toArray w _ from by
    simp only [denL, V.den, hden]
    exact en_hit a b s w hok h2.1 h2.2 h3.1 h3.2) fun ev w' hw => ?_
  obtain ⟨rfl, hbel⟩ := hw
  have hB' : ∀ n, B n → n < M.length ∨ M.length + 1 ≤ n := fun n hn => by have := hB n hn; simpa using this
  have hsl : scL B l := sgB_sc hs
  have hl : denL (upE ρ M.length (.string (encS a b s))) (.int false .i64 a :: .int false .i64 b :: l) = .int .i64 a :: .int .i64 b :: s.cells := by
    have := denL_eq (A := B) (ρ := ρ) (ρ' := upE ρ M.length (.string (encS a b s))) (fun j hj => if_neg (by have := hB' j hj; omega)) l hsl
    simp only [denL, V.den, this, hden]
  have hat := hA.mk hB' hM (p := .abs 0 (.int false .i64 a :: .int false .i64 b :: l)) (v := .string (encS a b s)) (F := fun _ => False) (w' := w')
    (by
      show (onlyR (segV (denL _ (.int false .i64 a :: .int false .i64 b :: l)) (upE ρ M.length _ M.length))).P w' _
      rw [hl]
      exact ⟨fun b hb => hb, a, b, s, hok, h2, h3, rfl, by simp only [upE, if_true]⟩)
    (fun b hb => hb.elim) hbel
  refine (show Q (.returned ((V.tup [.ns M.length, .int false .i64 0]).den (upE ρ M.length (.string (encS a b s))))) w' → _ from fun h => by simpa [V.den, denL, upE, strOf] using h) ?_
  exact hQ _ _ _ _ rfl (hK _ _ (by rw [List.length_append]; exact ext_one) hat ⟨⟨⟨.inr ⟨Nat.le_refl _, by simp⟩, trivial, trivial⟩, trivial⟩, trivial, fun m hm => by cases hm⟩ (scM_new hM ⟨trivial, trivial, hsl⟩))
def pkS (args : List V) : Option (Bool × V) := match args with
  | [.int s1 .i64 a, .int s2 .i64 n] => some (inR a && ilt 0 n, .int (s1 || s2) .i64 (pickF a n))
  | _ => none
theorem pkS_hit (args : List V) (c : Bool) (v : V) (h : pkS args = some (c, v)) (hc : c = true) : v.cl = true ∧ ∀ ρ w, Calls Tryz.prog 13 (denL ρ args).toArray w fun e w' => e = .returned (v.den ρ) ∧ Below w.heap.size w w' := by
  unfold pkS at h
  split at h
  case h_2 => cases h
  simp only [Option.some.injEq, Prod.mk.injEq] at h
  obtain ⟨h1, rfl⟩ := h
  have h1 := h1.trans hc
  simp only [Bool.and_eq_true] at h1
  exact ⟨rfl, fun ρ w => pk_hit _ _ w h1.1 h1.2⟩
def tblQ : FuncId → Option (List V → T Nat) := addT (addT (addT (addT (addT (addT (addT (addT tblS 20 sgEq) 57 sgDe) 10 saneC) 13 (pureC pkS)) 12 (pureC txG)) 19 saC) 162 sdC) 79 svC
theorem tblQ_ok : TblOK arS Tryz.prog tblQ := addT_ok (addT_ok (addT_ok (addT_ok (addT_ok (addT_ok (addT_ok (addT_ok tblS_ok sgEq_ok) sgDe_ok) saneC_ok) (pureC_ok pkS_hit)) (pureC_ok txG_hit)) saC_ok) sdC_ok) svC_ok
end Go.Proofs.YtockaipodnapjaaGreatDoor
namespace Go.Proofs.YtockaipodnapjaaGreatDoor
open Go Go.RowKit
set_option linter.unusedVariables false
set_option maxRecDepth 100000
def rg31 (d : Int) : Bool := !ilt d (-2147483648) && ilt d 2147483648
theorem dfF_rg {d : Int} (h : rg31 d = true) : dfF d = d := by
  unfold rg31 at h
  simp only [ilt_dec, Bool.and_eq_true, Bool.not_eq_true', decide_eq_false_iff_not, decide_eq_true_eq] at h
  rw [dfF_eq]
  split <;> omega
end Go.Proofs.YtockaipodnapjaaGreatDoor
namespace Go.Proofs.YtockaipodnapjaaGreatDoor
open Go Go.RowKit
set_option linter.unusedVariables false
set_option maxRecDepth 100000
noncomputable def endG2 : RK Nat (Option (Obs × List V × List (Pl Nat))) := fun r _ _ tr obs _ _ => some (obs, r.l, [gM tr 0, gM tr 1, gM tr 2])
noncomputable def runG2 (kof : TypeId → Option (Nat × Bool)) (tbl : FuncId → Option (List V → T Nat)) (n : Nat) (f : FuncId) (args : List V) (ch : List Bool) : Option (Obs × List V × List (Pl Nat)) := runF (fun _ => none) ((evF Tryz.prog kof tbl n).call f args rt) ch 4 (trM 0 MS .z) [] 0 0 endG2
theorem vm_row2 {kof : TypeId → Option (Nat × Bool)} (hE : Entr Tryz.prog kof) {tbl : FuncId → Option (List V → T Nat)} (htbl : TblOK arS Tryz.prog tbl) {n : Nat} {f : FuncId} {args : List V} {ch : List Bool} {L : Obs} {U : V} (hargs : clL args = true) (hU : U.cl = true)
    (hrun : runG2 kof tbl n f args ch = some (L, [U], MS.take 3)) (hL : okObs L) (w : World) (hw : Glbs w) : Calls Tryz.prog f (denL ρ0 args).toArray w fun e w' => e = .returned (U.den ρ0) ∧ Below w.heap.size w w' := by
  obtain ⟨k0, ⟨v1, k1⟩, k2⟩ := hw
  obtain ⟨a0, t0, f0, o0⟩ := obj_of k0
  obtain ⟨a1, t1, f1, o1⟩ := obj_of k1
  obtain ⟨a2, t2, f2, o2⟩ := obj_of (k2 0 _ rfl)
  obtain ⟨ρ, hρ0, hρ1, hρ2, hρ3⟩ : ∃ ρ : En, ρ 0 = objV (.cells a0 t0 f0) ∧ ρ 1 = objV (.cells a1 t1 f1) ∧ ρ 2 = objV (.cells a2 t2 f2) ∧ ρ 3 = v1 :=
    ⟨fun i => match i with | 0 => objV (.cells a0 t0 f0) | 1 => objV (.cells a1 t1 f1) | 2 => objV (.cells a2 t2 f2) | _ => v1, rfl, rfl, rfl, rfl⟩
  have hden : denL ρ args = denL ρ0 args := denL_eq (A := fun _ => False) (fun _ h => h.elim) args (clL_sc _ hargs)
  have htri : denL ρ triS = denL ρ0 triS := denL_eq (A := fun _ => False) (fun _ h => h.elim) triS (clL_sc _ rfl)
  have hA : At arS w (fun b => b < 3) w ρ MS := by
    refine ⟨Upd.refl _ _, fun i b => i < 3 ∧ b = i, fun i hi => ?_, fun i j hi hj hij b hb hc => hij (hb.2.symm.trans hc.2)⟩
    refine ⟨?_, fun b hb => .inl (by omega)⟩
    match i, hi with
    | 0, _ =>
      refine ⟨fun i u hu => ?_, fun b => by simp, ?_⟩
      · match i, hu with
        | 0, hu =>
          cases hu
          rw [hρ0]
          exact cellO_of k0 o0
      · rw [hρ0]; exact o0
    | 1, _ =>
      refine ⟨fun i u hu => ?_, fun b => by simp, ?_⟩
      · match i, hu with
        | 0, hu =>
          have hu : some (Value.iface 400 (ρ 3)) = some u := hu
          rw [hρ3] at hu
          cases hu
          rw [hρ1]
          exact cellO_of k1 o1
      · rw [hρ1]; exact o1
    | 2, _ =>
      refine ⟨fun i u hu => ?_, fun b => by simp, ?_⟩
      · rw [htri] at hu
        rw [hρ2]
        exact cellO_of (k2 i u hu) o2
      · rw [hρ2]; exact o2
    | 3, _ => exact fun b hb => by omega
  have hsc := MS_sc
  unfold runG2 at hrun
  rcases fast_call (R := Option (Obs × List V × List (Pl Nat))) (fun _ => none) (P := Tryz.prog) (kof := kof) (tbl := tbl) (n := n) (f := f) (args := args) (ch := ch) (tri_of MS (by decide)) (K := endG2) with ⟨m, h⟩ | ⟨v, M1, ch1, obs1, lg1, len', tr', e1, e2, u, e3, e4⟩
  · have h : runF (fun _ => none) ((evF Tryz.prog kof tbl n).call f args rt) ch 4 (trM 0 MS .z) [] 0 0 endG2 = none := h
    rw [h] at hrun; cases hrun
  have e4 : runF (fun _ => none) ((evF Tryz.prog kof tbl n).call f args rt) ch 4 (trM 0 MS .z) [] 0 0 endG2 = endG2 (rv u) ch1 len' tr' obs1 lg1.t lg1.w := e4
  rw [e4] at hrun
  simp only [endG2, Option.some.injEq, Prod.mk.injEq] at hrun
  obtain ⟨rfl, hv, hw⟩ := hrun
  obtain rfl : u = U := (List.cons.inj hv).1
  obtain ⟨l, hl, _, hsame, _⟩ := run_loc _ (M2 := MS) e1
  rw [un_nil] at hl
  subst hl
  have hlen := run_len _ e1
  have hM1 : ∀ i, i < 3 → Mget M1 i = Mget MS i := fun i hi => by
    have h4 : 4 ≤ M1.length := hlen
    have hg := gM_eq tr' i
    rw [e2.at_ i (by omega)] at hg
    rw [← hg]
    have hw : gM tr' 0 = Mget MS 0 ∧ gM tr' 1 = Mget MS 1 ∧ gM tr' 2 = Mget MS 2 := by
      have h := hw
      simp only [MS, List.take_succ_cons, List.take_zero, List.cons.injEq, and_true] at h
      exact h
    match i, hi with
    | 0, _ => exact hw.1
    | 1, _ => exact hw.2.1
    | 2, _ => exact hw.2.2
  have hcall := (allOK hE htbl n).call f args ch MS [] .nil _ M1 ch1 obs1 _ e1 hL (fun j => j < 4) ρ w (fun b => b < 3) w (fun r ρ' w' => r = v ∧ Ext 4 M1.length ρ ρ' ∧ At arS w (fun b => b < 3) w' ρ' M1) (fun n hn => .inl (by show n < 4; omega)) hA hsc (clL_sc _ hargs)
    (fun ρ' w' a b c d => ⟨rfl, a, b⟩) (fun e w' => e = .returned (u.den ρ0) ∧ Below w.heap.size w w') fun r ρ' w' x hx hk2 => ?_
  · rw [hden] at hcall; exact hcall
  obtain ⟨er, hE2, hA2⟩ := hk2
  have hxu : x = u := by
    have h5 : r.l = [x] := by rw [hx]
    rw [er, e3] at h5
    exact ((List.cons.inj h5).1).symm
  refine ⟨by rw [hxu, V.cl_den hU], hA2.upd.os, hA2.upd.tape, hA2.upd.output, hA2.upd.size, fun b hb => ?_⟩
  by_cases c : b < 3
  · have h4 : 4 ≤ M1.length := hlen
    obtain ⟨F, g1, _⟩ := OwnN.step hA2 (i := b) (by omega)
    rw [hM1 b c] at g1
    have hb' : ρ' b = ρ b := hE2 b (.inl (by omega))
    match b, c, g1, hb' with
    | 0, _, g1, hb' =>
      have g1 : w'.heap[0]? = some (objOf (ρ' 0)) := g1.2.2
      rw [g1, hb', hρ0, o0]; rfl
    | 1, _, g1, hb' =>
      have g1 : w'.heap[1]? = some (objOf (ρ' 1)) := g1.2.2
      rw [g1, hb', hρ1, o1]; rfl
    | 2, _, g1, hb' =>
      have g1 : w'.heap[2]? = some (objOf (ρ' 2)) := g1.2.2
      rw [g1, hb', hρ2, o2]; rfl
  · exact hA2.upd.block b hb c
end Go.Proofs.YtockaipodnapjaaGreatDoor
namespace Go.Proofs.YtockaipodnapjaaGreatDoor
open Go Go.RowKit
set_option linter.unusedVariables false
set_option maxRecDepth 100000
def prt (s : Int) : Int := Int.add 49152 (Int.tmod (Int.add (Int.tmod (Int.add (Int.add (Int.tmod s 64) (Int.tmod 0 64)) 64) 64) 0) 64)
def glG : List (Nat × Pl Nat) := [(0, .glb 0 [.lit (.iface 233 (.agg ⟨[.pointer (some ⟨4, 96, none⟩)]⟩))] 0), (1, .glb 1 [.ifc 400 (.nm 3)] 0), (2, .glb 2 triS 0)]
def glP : List (Pl Nat) := [.glb 0 [.lit (.iface 233 (.agg ⟨[.pointer (some ⟨4, 96, none⟩)]⟩))] 0, .glb 1 [.ifc 400 (.nm 3)] 0, .glb 2 triS 0]
def ringZ : Pl Nat := .row 5 1 (List.replicate 2048 [.int false .u8 0])
theorem ringZ_ren (σ : Nat → Nat) : Pl.ren σ ringZ = ringZ := by
  show Pl.row 5 1 (List.map (renL σ) (List.replicate 2048 [.int false .u8 0])) = _
  rw [List.map_replicate]
  rfl
def cnN (sa sb p : Int) : List (Pl Nat) := [.blk [.int true .i64 sa, .int false .i64 1, .nm 16, .nm 17, .nm 19, .nm 20, .nm 22] 170,
  .map 0 [(.i 1, .ptr 11 0)],
  .blk [.int true .i64 sa, .ptr 4 0, .nm 5, .int false .i64 1, .int false .i64 1, .int false .i64 2, .lit (.slice none 0 0), .lit (.slice none 0 0), .lit (.slice none 0 0)] 88,
  .blk [.int true .i64 sb, .int false .i64 0, .nm 13, .nm 14, .nm 36, .nm 37, .nm 39] 170,
  .map 0 [(.i 1, .ptr 12 0), (.i 2, .ptr 40 0)],
  .blk [.int true .i64 sb, .ptr 7 0, .nm 8, .int false .i64 2, .int false .i64 1, .int false .i64 4, .lit (.slice none 0 0), .lit (.slice none 0 0), .lit (.slice none 0 0)] 88,
  .blk [.ptr 6 0, .ptr 9 0, .sl 43 9 0 0, .int false .i64 3, .sl 42 8 0 2, .sl 44 8 0 4] 49,
  .blk [.ptr 26 0, .int false .i64 1, .int false .i64 6, .bool false true, .int false .i64 0, .int false .i64 0, .int false .i64 0, .int false .i64 1, .int true .i64 p, .int false .i64 2, .int false .i64 80, .lit (.slice none 0 0), .int false .i64 0, .int false .i64 0] 74,
  .blk [.lit (.pointer none), .int false .i64 1, .int false .i64 6, .bool false true, .int false .i64 0, .int false .i64 3, .int false .i64 500, .int false .i64 0, .int false .i64 80, .int false .i64 0, .int false .i64 0, .lit (.slice none 0 0), .int false .i64 0, .int false .i64 0] 74,
  .map 1 [(.p 6 80, .int false .i64 1)],
  .map 0 [(.i 1, .sl 15 2 0 1)],
  .row 220 2 [[.int false .i64 6, .int false .i64 80]],
  .map 1 [(.p 6 p, .int false .i64 1)],
  .map 0 [(.i 1, .sl 18 2 0 1)],
  .row 220 2 [[.int false .i64 6, .int true .i64 p]],
  .map 2 [(.t p 2 80, .int false .i64 1)],
  .map 0 [(.i 1, .sl 21 3 0 1)],
  .row 224 3 [[.int true .i64 p, .int false .i64 2, .int false .i64 80]],
  .map 0 [(.i p, .int false .i64 1)],
  .abs 3 [.int true .i64 sa],
  ringZ,
  .blk [.sl 24 1 0 2048, .int false .i64 0, .int false .i64 0, .lit (.slice none 0 0), .int false .i64 0] 263,
  .blk [.ptr 27 0, .ptr 28 0, .ptr 41 0, .str false ⟨#[]⟩, .int false .i64 1, .int false .i64 2049, .int false .i64 2048, .int false .i64 500, .bool false true, .bool false false, .int false .i64 0, .ptr 25 0, .sq 29 1048576, .int false .i64 2048, .int false .i64 2048, .bool false false, .int false .i64 0, .bool false false, .int false .i64 0, .bool false false, .int false .i64 0, .int false .i64 0, .int true .i64 p, .int false .i64 80, .sq 23 1048576, .int false .i64 500, .int false .i64 2048, .int false .i64 2048, .int false .i64 3, .int false .i64 0, .bool false false, .int false .i64 0, .int false .i64 0, .int false .i64 0, .bool false false, .int false .i64 0, .int false .i64 0] 119,
  .blk [.int false .i64 1, .int false .i64 1, .int false .i64 0, .lit (.slice none 0 0), .lit (.slice none 0 0)] 298,
  .blk [.bool false true, .int false .i64 8, .int false .i64 2, .bool false false, .int false .i64 1, .int false .i64 0, .int false .i64 0] 280,
  .abs 3 [.int true .i64 sb],
  ringZ,
  .blk [.sl 30 1 0 2048, .int false .i64 0, .int false .i64 0, .lit (.slice none 0 0), .int false .i64 0] 263,
  .blk [.ptr 33 0, .ptr 34 0, .ptr 35 0, .str false ⟨#[]⟩, .int false .i64 1, .int false .i64 2049, .int false .i64 2048, .int false .i64 500, .bool false true, .bool false false, .int false .i64 0, .ptr 31 0, .sq 23 1048576, .int false .i64 2048, .int false .i64 2048, .bool false false, .int false .i64 0, .bool false false, .int false .i64 0, .bool false false, .int false .i64 0, .int false .i64 0, .int false .i64 80, .int true .i64 p, .sq 29 1048576, .int false .i64 500, .int false .i64 2048, .int false .i64 2048, .int false .i64 3, .int false .i64 0, .bool false false, .int false .i64 0, .int false .i64 0, .int false .i64 0, .bool false false, .int false .i64 0, .int false .i64 0] 119,
  .blk [.int false .i64 1, .int false .i64 1, .int false .i64 0, .lit (.slice none 0 0), .lit (.slice none 0 0)] 298,
  .blk [.bool false true, .int false .i64 8, .int false .i64 2, .bool false false, .int false .i64 1, .int false .i64 0, .int false .i64 0] 280,
  .blk [.int false .i64 500, .int false .i64 1000, .int false .i64 65535, .bool false false, .int false .i64 0, .fn (.func 306) [] [], .fn (.func 307) [] []] 339,
  .map 2 [(.t 80 1 p, .int false .i64 2)],
  .map 0 [(.i 2, .sl 38 3 0 1)],
  .row 224 3 [[.int false .i64 80, .int false .i64 1, .int true .i64 p]],
  .map 0 [(.i 80, .int false .i64 1)],
  .blk [.ptr 32 0, .int false .i64 2, .int false .i64 6, .bool false true, .int false .i64 0, .int false .i64 0, .int false .i64 0, .int false .i64 2, .int false .i64 80, .int false .i64 1, .int true .i64 p, .lit (.slice none 0 0), .int false .i64 0, .int false .i64 0] 74,
  .blk [.int false .i64 500, .int false .i64 1000, .int false .i64 65535, .bool false false, .int false .i64 0, .fn (.func 306) [] [], .fn (.func 307) [] []] 339,
  .row 35 8 [[.int false .i64 1, .int false .i64 0, .int false .i64 1, .str false ⟨#[]⟩, .int false .i64 0, .int false .i64 0, .lit (.slice none 0 0), .bool false false], [.int false .i64 2, .int false .i64 0, .int false .i64 0, .str false ⟨#[]⟩, .int false .i64 0, .int false .i64 0, .lit (.slice none 0 0), .bool false false]],
  .row 58 9 [],
  .row 35 8 [[.int false .i64 1, .int false .i64 0, .int false .i64 1, .str false ⟨#[]⟩, .int false .i64 0, .int false .i64 0, .lit (.slice none 0 0), .bool false false], [.int false .i64 2, .int false .i64 0, .int false .i64 80, .str false ⟨#[]⟩, .int false .i64 0, .int false .i64 0, .lit (.slice none 0 0), .bool false false], [.int false .i64 3, .int false .i64 0, .int false .i64 0, .str false ⟨#[]⟩, .int false .i64 0, .int false .i64 0, .lit (.slice none 0 0), .bool false false], [.int false .i64 4, .int false .i64 0, .int false .i64 2, .str false ⟨#[]⟩, .int false .i64 1, .int true .i64 p, .lit (.slice none 0 0), .bool false false]]]
def cnR (sa sb p : Int) : List (Pl Nat) := [.blk [.int true .i64 sa, .int false .i64 1, .nm 190, .nm 191, .nm 196, .nm 197, .nm 200] 170,
  .map 0 [(.i 1, .ptr 20 0)],
  .blk [.int true .i64 sa, .ptr 4 0, .nm 5, .int false .i64 1, .int false .i64 1, .int false .i64 2, .lit (.slice none 0 0), .lit (.slice none 0 0), .lit (.slice none 0 0)] 88,
  .blk [.int true .i64 sb, .int false .i64 0, .nm 84, .nm 85, .nm 329, .nm 330, .nm 333] 170,
  .map 0 [(.i 1, .ptr 50 0), (.i 2, .ptr 334 0)],
  .blk [.int true .i64 sb, .ptr 7 0, .nm 8, .int false .i64 2, .int false .i64 1, .int false .i64 4, .lit (.slice none 0 0), .lit (.slice none 0 0), .lit (.slice none 0 0)] 88,
  .blk [.ptr 6 0, .ptr 9 0, .sl 532 9 0 0, .int false .i64 3, .sl 530 8 0 2, .sl 693 8 0 4] 49,
  .blk [.ptr 209 0, .int false .i64 1, .int false .i64 6, .bool false true, .int false .i64 0, .int false .i64 0, .int false .i64 0, .int false .i64 1, .int true .i64 p, .int false .i64 2, .int false .i64 80, .lit (.slice none 0 0), .int false .i64 0, .int false .i64 0] 74,
  .blk [.lit (.pointer none), .int false .i64 1, .int false .i64 6, .bool false true, .int false .i64 0, .int false .i64 3, .int false .i64 500, .int false .i64 0, .int false .i64 80, .int false .i64 0, .int false .i64 0, .lit (.slice none 0 0), .int false .i64 0, .int false .i64 0] 74,
  .map 1 [(.p 6 80, .int false .i64 1)],
  .map 0 [(.i 1, .sl 87 2 0 1)],
  .row 220 2 [[.int false .i64 6, .int false .i64 80]],
  .map 1 [(.p 6 p, .int false .i64 1)],
  .map 0 [(.i 1, .sl 193 2 0 1)],
  .row 220 2 [[.int false .i64 6, .int true .i64 p]],
  .map 2 [(.t p 2 80, .int false .i64 1)],
  .map 0 [(.i 1, .sl 199 3 0 1)],
  .row 224 3 [[.int true .i64 p, .int false .i64 2, .int false .i64 80]],
  .map 0 [(.i p, .int false .i64 1)],
  .abs 3 [.int true .i64 sa],
  ringZ,
  .blk [.sl 206 1 0 2048, .int false .i64 0, .int false .i64 0, .lit (.slice none 0 0), .int false .i64 0] 263,
  .blk [.ptr 210 0, .ptr 211 0, .ptr 384 0, .str false ⟨#[]⟩, .int false .i64 1, .int false .i64 2049, .int false .i64 2048, .int false .i64 500, .bool false true, .bool false false, .int false .i64 0, .ptr 207 0, .sq 280 1048576, .int false .i64 2048, .int false .i64 2048, .bool false false, .int false .i64 0, .bool false false, .int false .i64 0, .bool false false, .int false .i64 0, .int false .i64 0, .int true .i64 p, .int false .i64 80, .sq 202 1048576, .int false .i64 500, .int false .i64 2048, .int false .i64 2048, .int false .i64 3, .int false .i64 0, .bool false false, .int false .i64 0, .int false .i64 0, .int false .i64 0, .bool false false, .int false .i64 0, .int false .i64 0] 119,
  .blk [.int false .i64 1, .int false .i64 1, .int false .i64 0, .lit (.slice none 0 0), .lit (.slice none 0 0)] 298,
  .blk [.bool false true, .int false .i64 8, .int false .i64 2, .bool false false, .int false .i64 1, .int false .i64 0, .int false .i64 0] 280,
  .abs 3 [.int true .i64 sb],
  ringZ,
  .blk [.sl 289 1 0 2048, .int false .i64 0, .int false .i64 0, .lit (.slice none 0 0), .int false .i64 0] 263,
  .blk [.ptr 293 0, .ptr 294 0, .ptr 299 0, .str false ⟨#[]⟩, .int false .i64 1, .int false .i64 2049, .int false .i64 2048, .int false .i64 500, .bool false true, .bool false false, .int false .i64 0, .ptr 290 0, .sq 202 1048576, .int false .i64 2048, .int false .i64 2048, .bool false false, .int false .i64 0, .bool false false, .int false .i64 0, .bool false false, .int false .i64 0, .int false .i64 0, .int false .i64 80, .int true .i64 p, .sq 280 1048576, .int false .i64 500, .int false .i64 2048, .int false .i64 2048, .int false .i64 3, .int false .i64 0, .bool false false, .int false .i64 0, .int false .i64 0, .int false .i64 0, .bool false false, .int false .i64 0, .int false .i64 0] 119,
  .blk [.int false .i64 1, .int false .i64 1, .int false .i64 0, .lit (.slice none 0 0), .lit (.slice none 0 0)] 298,
  .blk [.bool false true, .int false .i64 8, .int false .i64 2, .bool false false, .int false .i64 1, .int false .i64 0, .int false .i64 0] 280,
  .blk [.int false .i64 500, .int false .i64 1000, .int false .i64 65535, .bool false false, .int false .i64 0, .fn (.func 306) [] [], .fn (.func 307) [] []] 339,
  .map 2 [(.t 80 1 p, .int false .i64 2)],
  .map 0 [(.i 2, .sl 332 3 0 1)],
  .row 224 3 [[.int false .i64 80, .int false .i64 1, .int true .i64 p]],
  .map 0 [(.i 80, .int false .i64 1)],
  .blk [.ptr 292 0, .int false .i64 2, .int false .i64 6, .bool false true, .int false .i64 0, .int false .i64 0, .int false .i64 0, .int false .i64 2, .int false .i64 80, .int false .i64 1, .int true .i64 p, .lit (.slice none 0 0), .int false .i64 0, .int false .i64 0] 74,
  .blk [.int false .i64 500, .int false .i64 1000, .int false .i64 65535, .bool false false, .int false .i64 0, .fn (.func 306) [] [], .fn (.func 307) [] []] 339,
  .row 35 8 [[.int false .i64 1, .int false .i64 0, .int false .i64 1, .str false ⟨#[]⟩, .int false .i64 0, .int false .i64 0, .lit (.slice none 0 0), .bool false false], [.int false .i64 2, .int false .i64 0, .int false .i64 0, .str false ⟨#[]⟩, .int false .i64 0, .int false .i64 0, .lit (.slice none 0 0), .bool false false]],
  .row 58 9 [],
  .row 35 8 [[.int false .i64 1, .int false .i64 0, .int false .i64 1, .str false ⟨#[]⟩, .int false .i64 0, .int false .i64 0, .lit (.slice none 0 0), .bool false false], [.int false .i64 2, .int false .i64 0, .int false .i64 80, .str false ⟨#[]⟩, .int false .i64 0, .int false .i64 0, .lit (.slice none 0 0), .bool false false], [.int false .i64 3, .int false .i64 0, .int false .i64 0, .str false ⟨#[]⟩, .int false .i64 0, .int false .i64 0, .lit (.slice none 0 0), .bool false false], [.int false .i64 4, .int false .i64 0, .int false .i64 2, .str false ⟨#[]⟩, .int false .i64 1, .int true .i64 p, .lit (.slice none 0 0), .bool false false]]]
def cnC (sa sb p : Int) : Chp Nat where
  c0 := 4
  pre := glG
  post := glP
  news := cnN sa sb p
  sg := [4, 5, 6, 7, 8, 9, 10, 20, 50, 84, 85, 87, 190, 191, 193, 196, 197, 199, 200, 202, 206, 207, 209, 210, 211, 280, 289, 290, 292, 293, 294, 299, 329, 330, 332, 333, 334, 384, 530, 532, 693]
  val := .tup [.ptr 10 0, .bool false true]
def cnL (a b sa sb p : Int) : Obs := [(!ieq p p, false), (!ieq p p, false), (!ieq p p, false), (!ieq p p, false), (!ieq p p, false), (!ieq p p, false), (!ieq p p, false), (!ieq p p, false), (!ieq p p, false), (!ilt (Int.ofNat 65535) p, true), (!ilt (Int.ofNat 65535) p, true), (!ilt (Int.ofNat 65535) p, true), (!ilt (Int.ofNat 65535) p, true), (!ilt p (Int.ofNat 1), true), (!ilt p (Int.ofNat 1), true), (!ilt p (Int.ofNat 1), true), (ieq p p, true), (keq (Key.t (Int.ofNat 80) ((Int.ofNat 1).add (Int.ofNat 0)) p) (Key.t (Int.ofNat 80) ((Int.ofNat 1).add (Int.ofNat 0)) p), true), (true, true), (true, true), (!ilt p (Int.ofNat 1) && !ilt (Int.ofNat 65535) p && (!ilt (Int.ofNat 80) (Int.ofNat 1) && !ilt (Int.ofNat 65535) (Int.ofNat 80) && (!ilt (Int.ofNat 0) (Int.ofNat 0) && !ilt (Int.ofNat 4294967295) (Int.ofNat 0) && (!ilt (Int.ofNat 0) (Int.ofNat 0) && !ilt (Int.ofNat 4294967295) (Int.ofNat 0) && (true && (!ilt ((Int.ofNat 2048).sub (Int.ofNat 0)) (Int.ofNat 0) && !ilt (Int.ofNat 65535) ((Int.ofNat 2048).sub (Int.ofNat 0)) && (!(false && false) && (!false && ieq (Int.ofNat 0) (Int.ofNat 0)) && (true && true))))))) && (!true || true) && (!ilt ((Int.ofNat 1).add (Int.ofNat 0)) (Int.ofNat 0) && !ilt (Int.ofNat 4294967295) ((Int.ofNat 1).add (Int.ofNat 0)) && (!ilt (Int.ofNat 2) (Int.ofNat 0) && !ilt (Int.ofNat 4294967295) (Int.ofNat 2))), true), (!ieq p p, false), (!ilt (Int.ofNat 65535) p, true), (!ilt (Int.ofNat 65535) p, true), (!ilt (Int.ofNat 65535) p, true), (!ilt (Int.ofNat 65535) p, true), (!ilt p (Int.ofNat 1), true), (!ilt p (Int.ofNat 1), true), (!ilt p (Int.ofNat 1), true), (keq (Key.t p (Int.ofNat 2) (Int.ofNat 80)) (Key.t p (Int.ofNat 2) (Int.ofNat 80)), true), (true, true), (true, true), (!ilt (Int.ofNat 80) (Int.ofNat 1) && !ilt (Int.ofNat 65535) (Int.ofNat 80) && (!ilt p (Int.ofNat 1) && !ilt (Int.ofNat 65535) p && (!ilt (Int.ofNat 0) (Int.ofNat 0) && !ilt (Int.ofNat 4294967295) (Int.ofNat 0) && (!ilt (Int.ofNat 0) (Int.ofNat 0) && !ilt (Int.ofNat 4294967295) (Int.ofNat 0) && (true && (!ilt (Int.ofNat 2048) (Int.ofNat 0) && !ilt (Int.ofNat 65535) (Int.ofNat 2048) && (!false && (!false && (!ilt (Int.ofNat 500) (Int.ofNat 28) && !ilt (Int.ofNat 1024) (Int.ofNat 500) && true)) && (true && true))))))) && (!true || true) && (!ilt (Int.ofNat 2) (Int.ofNat 0) && !ilt (Int.ofNat 4294967295) (Int.ofNat 2) && (!ilt ((Int.ofNat 1).add (Int.ofNat 0)) (Int.ofNat 0) && !ilt (Int.ofNat 4294967295) ((Int.ofNat 1).add (Int.ofNat 0)))), true), (!!ilt (Int.ofNat 65535) p, false), (!!ilt (Int.ofNat 65535) p, false), (!!ilt (Int.ofNat 65535) p, false), (!!ilt (Int.ofNat 65535) p, false), (!ilt p (Int.ofNat 1), true), (!ilt p (Int.ofNat 1), true), (!ilt p (Int.ofNat 1), true), (!!ilt (Int.ofNat 65535) p, false), (!!ilt (Int.ofNat 65535) p, false), (!!ilt (Int.ofNat 65535) p, false), (!!ilt (Int.ofNat 65535) p, false), (!!ilt (Int.ofNat 65535) p, false), (!ilt p (Int.ofNat 1), true), (!ilt p (Int.ofNat 1), true), (!ilt p (Int.ofNat 1), true), (!ieq p p, false), (!ieq p p, false), (!ieq p p, false), (!ieq p p, false), (!ieq p p, false), (!ieq p p, false), (true, true), (!ilt (Int.ofNat 65535) p, true), (!ilt (Int.ofNat 65535) p, true), (!ilt (Int.ofNat 65535) p, true), (!ilt (Int.ofNat 65535) p, true), (!ilt p (Int.ofNat 1), true), (!ilt p (Int.ofNat 1), true), (!ilt p (Int.ofNat 1), true), (keq (Key.p (Int.ofNat 6) (Int.ofNat 80)) (Key.p (Int.ofNat 6) (Int.ofNat 80)), true), (true, true), (true, true), (!ilt p (Int.ofNat 1) && !ilt (Int.ofNat 65535) p && (!ilt (Int.ofNat 80) (Int.ofNat 1) && !ilt (Int.ofNat 65535) (Int.ofNat 80) && (!ilt (Int.ofNat 0) (Int.ofNat 0) && !ilt (Int.ofNat 4294967295) (Int.ofNat 0) && (!ilt (Int.ofNat 0) (Int.ofNat 0) && !ilt (Int.ofNat 4294967295) (Int.ofNat 0) && (ieq (Int.ofNat 0) (Int.ofNat 0) && (!ilt (Int.ofNat 2048) (Int.ofNat 0) && !ilt (Int.ofNat 65535) (Int.ofNat 2048) && (!false && (!false && (!ilt (Int.ofNat 500) (Int.ofNat 28) && !ilt (Int.ofNat 1024) (Int.ofNat 500) && true)) && (true && true))))))) && (!false || false) && (!ilt ((Int.ofNat 1).add (Int.ofNat 0)) (Int.ofNat 0) && !ilt (Int.ofNat 4294967295) ((Int.ofNat 1).add (Int.ofNat 0)) && (!ilt (Int.ofNat 2) (Int.ofNat 0) && !ilt (Int.ofNat 4294967295) (Int.ofNat 2))), true), (!!ilt (Int.ofNat 65535) p, false), (!!ilt (Int.ofNat 65535) p, false), (!!ilt (Int.ofNat 65535) p, false), (!!ilt (Int.ofNat 65535) p, false), (!!ilt (Int.ofNat 65535) p, false), (!ilt p (Int.ofNat 1), true), (!ilt p (Int.ofNat 1), true), (!ilt p (Int.ofNat 1), true), (!!ilt (Int.ofNat 65535) p, false), (!!ilt (Int.ofNat 65535) p, false), (!!ilt (Int.ofNat 65535) p, false), (!!ilt (Int.ofNat 65535) p, false), (!ilt p (Int.ofNat 1), true), (!ilt p (Int.ofNat 1), true), (!ilt p (Int.ofNat 1), true), (inR p, true), (true, true), (inR (((((sa.tmod (Int.ofNat 64)).add ((Int.ofNat 0).tmod (Int.ofNat 64))).add (Int.ofNat 64)).tmod (Int.ofNat 64)).add (Int.ofNat 0)), true), (true, true), (inR (((sa.tmod (Int.ofNat 64)).add ((Int.ofNat 0).tmod (Int.ofNat 64))).add (Int.ofNat 64)), true), (inR ((sa.tmod (Int.ofNat 64)).add ((Int.ofNat 0).tmod (Int.ofNat 64))), true), (true, true), (true, true), (ilt (Int.ofNat 4294967295) sb, false), (ilt sb (Int.ofNat 0), false), (ilt sb (Int.ofNat 0), false), (ilt sb (Int.ofNat 0), false), (ilt (Int.ofNat 4294967295) sa, false), (ilt sa (Int.ofNat 0), false), (ilt sa (Int.ofNat 0), false), (ilt sa (Int.ofNat 0), false), (inR b && ilt (Int.ofNat 0) (Int.ofNat 4294967296), true), (inR a && ilt (Int.ofNat 0) (Int.ofNat 4294967296), true)]
theorem cn_run (a b : Int) : runF (fun _ => none) ((evF Tryz.prog kofX tblQ 400).call 11 [.int true .i64 a, .int true .i64 b] rt) [false,false,false,false,false,false,false,false,true,true,true,false,false,false,false,true,true,true,false,false,false,false,false,true,true,true,true,true,true,true,true,false,false,false,false,false,false,true,true,true,false,false,false,false,false,true,true,true,false,false,false,false,true,true,true,true,true,true,true,true,false,true,true,true,true,true,true,true,true,true,false,false,false,false,false,false,false,false,false] 4 (trS glG) [] 0 0 (endK (cnC (pickF a 4294967296) (pickF b 4294967296) (prt (pickF a 4294967296)))) = some (cnL a b (pickF a 4294967296) (pickF b 4294967296) (prt (pickF a 4294967296)), [.tup [.ptr 10 0, .bool false true]], glP ++ cnR (pickF a 4294967296) (pickF b 4294967296) (prt (pickF a 4294967296))) := by kernel_rfl
theorem cn_ok_ (a b sa sb p : Int) : (cnC sa sb p).okB [.int true .i64 a, .int true .i64 b] = true := by kernel_rfl
theorem cn_ren (sa sb p : Int) : (cnC sa sb p).aft.map (Pl.ren (cnC sa sb p).sig) = glP ++ cnR sa sb p := by
  show (glP ++ cnN sa sb p).map (Pl.ren (cnC sa sb p).sig) = _
  simp only [List.map_append, cnN, cnR, List.map_cons, List.map_nil, ringZ_ren]
  rfl
end Go.Proofs.YtockaipodnapjaaGreatDoor
namespace Go.Proofs.YtockaipodnapjaaGreatDoor
open Go Go.RowKit
set_option linter.unusedVariables false
set_option maxRecDepth 100000
end Go.Proofs.YtockaipodnapjaaGreatDoor
namespace Go.Proofs.YtockaipodnapjaaGreatDoor
open Go Go.RowKit
set_option linter.unusedVariables false
set_option maxRecDepth 100000
def kofY (t : TypeId) : Option (Nat × Bool) := match Nat.beq t 3 with
  | true => some (0, true)
  | false => kofX t
theorem entrY : Entr Tryz.prog kofY where
  mixed := entr.mixed
  name := entr.name
  keys := by
    intro t kd s h
    unfold kofY at h
    split at h
    · rename_i h0
      have h0 := Nat.eq_of_beq_eq_true h0
      subst h0
      cases h
      exact keyOK 3 0 false rfl
    · exact entrX.keys t kd s h
end Go.Proofs.YtockaipodnapjaaGreatDoor
namespace Go.Proofs.YtockaipodnapjaaGreatDoor
open Go Go.RowKit
set_option linter.unusedVariables false
set_option maxRecDepth 100000
noncomputable def cnT (a b sa sb p : Int) : List V → T Nat := ckT (cnC sa sb p) [.int true .i64 a, .int true .i64 b]
theorem prt_rg {s : Int} (h1 : 0 ≤ s) : 49152 ≤ prt s ∧ prt s ≤ 49215 := by
  show (49152 : Int) ≤ 49152 + ((((s.tmod 64 + Int.tmod 0 64) + 64).tmod 64 + 0).tmod 64) ∧ 49152 + ((((s.tmod 64 + Int.tmod 0 64) + 64).tmod 64 + 0).tmod 64) ≤ 49215
  have a1 := Int.tmod_nonneg (b := 64) h1
  have e0 : Int.tmod 0 64 = 0 := rfl
  rw [e0]
  have a3 := Int.tmod_nonneg (b := 64) (show 0 ≤ s.tmod 64 + 0 + 64 by omega)
  have a4 := Int.tmod_nonneg (b := 64) (show 0 ≤ (s.tmod 64 + 0 + 64).tmod 64 + 0 by omega)
  have a5 := Int.tmod_lt_of_pos (b := 64) ((s.tmod 64 + 0 + 64).tmod 64 + 0) (by omega)
  omega
end Go.Proofs.YtockaipodnapjaaGreatDoor
namespace Go.Proofs.YtockaipodnapjaaGreatDoor
open Go Go.RowKit
set_option linter.unusedVariables false
set_option maxRecDepth 100000
end Go.Proofs.YtockaipodnapjaaGreatDoor
namespace Go.Proofs.YtockaipodnapjaaGreatDoor
open Go Go.RowKit
set_option linter.unusedVariables false
set_option maxRecDepth 100000
section
variable {a b sa sb p : Int}
theorem p_n1 (p1 : 49152 ≤ p) : (!ilt p (Int.ofNat 1)) = true := not_ilt (by show (1 : Int) ≤ p; omega)
theorem p_n2 (p2 : p ≤ 49215) : (!ilt (Int.ofNat 65535) p) = true := not_ilt (by show p ≤ (65535 : Int); omega)
theorem p_n3 (p2 : p ≤ 49215) : (!!ilt (Int.ofNat 65535) p) = false := nnot_ilt (by show p ≤ (65535 : Int); omega)
theorem p_n4 : (!ieq p p) = false := by rw [ieq_t rfl]; rfl
theorem keq_refl (k : Key) : keq k k = true := by rw [keq_dec]; exact decide_eq_true rfl
theorem cn_obs1 (ha : inR a = true) (hb : inR b = true) (s1 : 0 ≤ sa) (s2 : sa < 4294967296) (t1 : 0 ≤ sb) (t2 : sb < 4294967296) (p1 : 49152 ≤ p) (p2 : p ≤ 49215) : okObs (cnL a b sa sb p) := by
  have e0 : Int.tmod 0 64 = 0 := rfl
  have m1 := Int.tmod_nonneg (b := 64) s1
  have m2 := Int.tmod_lt_of_pos (b := 64) sa (by omega)
  have m3 := Int.tmod_nonneg (b := 64) (show 0 ≤ sa.tmod 64 + Int.tmod 0 64 + 64 by omega)
  have m4 := Int.tmod_lt_of_pos (b := 64) (sa.tmod 64 + Int.tmod 0 64 + 64) (by omega)
  have i1 : inR ((sa.tmod 64).add ((0 : Int).tmod 64)) = true := inR_t (by show _ ≤ sa.tmod 64 + Int.tmod 0 64; omega) (by show sa.tmod 64 + Int.tmod 0 64 ≤ _; omega)
  have i2 : inR (((sa.tmod 64).add ((0 : Int).tmod 64)).add 64) = true := inR_t (by show _ ≤ sa.tmod 64 + Int.tmod 0 64 + 64; omega) (by show sa.tmod 64 + Int.tmod 0 64 + 64 ≤ _; omega)
  have i3 : inR (((((sa.tmod 64).add ((0 : Int).tmod 64)).add 64).tmod 64).add 0) = true := inR_t (by show _ ≤ (sa.tmod 64 + Int.tmod 0 64 + 64).tmod 64 + 0; omega) (by show (sa.tmod 64 + Int.tmod 0 64 + 64).tmod 64 + 0 ≤ _; omega)
  have i4 : inR p = true := inR_t (by omega) (by omega)
  have q1 : ilt (Int.ofNat 4294967295) sa = false := ilt_f (by show sa ≤ (4294967295 : Int); omega)
  have q2 : ilt (Int.ofNat 4294967295) sb = false := ilt_f (by show sb ≤ (4294967295 : Int); omega)
  have q3 : ilt sa (Int.ofNat 0) = false := ilt_f s1
  have q4 : ilt sb (Int.ofNat 0) = false := ilt_f t1
  unfold cnL
  repeat' first | exact okO_nil | refine okO_cons ?_ ?_
  all_goals first | rfl | exact p_n1 p1 | exact p_n2 p2 | exact p_n3 p2 | exact p_n4 | exact ieq_t rfl | exact keq_refl _ | exact i1 | exact i2 | exact i3 | exact i4 | exact q1 | exact q2 | exact q3 | exact q4 | (rw [ha]; rfl) | (rw [hb]; rfl) | (rw [p_n1 p1, p_n2 p2]; rfl)
theorem cnT_ok (ha : inR a = true) (hb : inR b = true) (args : List V) : CallOK arS Tryz.prog 11 args (cnT a b (pickF a 4294967296) (pickF b 4294967296) (prt (pickF a 4294967296)) args) := by
  have h1 := pickF_rg a (n := 4294967296) (by decide)
  have h2 := pickF_rg b (n := 4294967296) (by decide)
  have h3 := prt_rg h1.1
  have hr := cn_run a b
  rw [← cn_ren] at hr
  exact ck_ok entrX tblQ_ok (cn_ok_ a b _ _ _) hr (cn_obs1 ha hb h1.1 h1.2 h2.1 h2.2 h3.1 h3.2) args
end
end Go.Proofs.YtockaipodnapjaaGreatDoor
