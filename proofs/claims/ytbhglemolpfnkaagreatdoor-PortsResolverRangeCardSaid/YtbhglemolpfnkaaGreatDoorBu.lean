/- The resolver's small functions: current, id, port, due, named of nothing; slices.Contains of integers. -/
import Derived.Test.YtbhglemolpfnkaaGreatDoorBm
import Derived.Test.YtbhglemolpfnkaaGreatDoorBc
import Derived.Test.YtbhglemolpfnkaaGreatDoorBe
import Derived.WalkKit
import Derived.LaidEql
import Derived.Stop.Asserts
import Derived.RowKitTokens
set_option linter.unusedVariables false
set_option maxRecDepth 100000
set_option maxHeartbeats 32000000
namespace Go.Proofs.YtbhglemolpfnkaaGreatDoor
variable {w0 w : World} {D : Nat → Prop} {L : List Res} {v : Value}
section
open Go.RowKit Go.Sort
attribute [local go_sem] Oper.semAt_some

theorem current_r {b : Nat} {a : Option Addr} {n i cap : Nat} {xs : List Value} {s : ByteArray} (w : World) (hc : w.cell? ⟨b, 1, none⟩ = some (.slice a n cap)) (hr : w.ownsRow 0 9 1 (.slice a n cap) n xs) (hi : i + 1 = n) (hl : n ≤ 1000) (hs : xs[i]? = some (.string s)) : Calls Tryz.prog 58 #[.pointer (some ⟨b, 0, none⟩)] w fun e w' => e = .returned (.string s) ∧ Below w.heap.size w w' := by
 obtain ⟨g, rfl⟩ := row_some hr (by omega)
 have hcl : w.cell? ⟨g, i, none⟩ = some (.string s) := (row_cells hr).1 i _ hs
 have e1 : (n : Int) - 1 = (i : Int) := by omega
 have e2 : (i : Int) < (n : Int) := by omega
 have e3 : (0 : Int) ≤ (i : Int) := by omega
 have e4 : (i : Int) ≤ 1000 := by omega
 have g1 := cell_regrown hc
 have g2 := cell_regrown hcl
 clear hr hs hc hcl hi hl
 go_enter Tryz.func58, Tryz.ntmps58
 go_wp2
 refine wp_region_B (by kernel_rfl) (by kernel_rfl) ?_
 repeat (go_big_quiet_step (fail))
 refine wpQuiet_nil ?_
 intro y1 hbw
 go_wp2
 go_ret
 exact ⟨rfl, hbw⟩
theorem id_r {a : Nat} {sd k : Int} (w : World) (hc : w.cell? ⟨a, 1, none⟩ = some (.int .i64 sd)) (s0 : 0 ≤ sd) (s1 : sd ≤ 4294967295) (k0 : 0 ≤ k) (k1 : k ≤ 1000000) : Calls Tryz.prog 57 #[.pointer (some ⟨a, 0, none⟩), .int .i64 k] w fun e w' => e = .returned (.int .i64 ((sd + 7919 * k) % 65536)) ∧ w = w' := by
 have hn : 0 ≤ sd + 7919 * k := by omega
 go_enter Tryz.func57, Tryz.ntmps57
 go_wp2
 go_ret
 exact ⟨rfl, rfl⟩
theorem rport_r {a : Nat} {sd k : Int} (w : World) (hc : w.cell? ⟨a, 1, none⟩ = some (.int .i64 sd)) (s0 : 0 ≤ sd) (s1 : sd ≤ 4294967295) (k0 : 0 ≤ k) (k1 : k ≤ 1000000) : Calls Tryz.prog 56 #[.pointer (some ⟨a, 0, none⟩), .int .i64 k] w fun e w' => e = .returned (.int .i64 (20000 + (sd + 101 * k) % 10000)) ∧ w = w' := by
 have hn : 0 ≤ sd + 101 * k := by omega
 go_enter Tryz.func56, Tryz.ntmps56
 go_wp2
 go_ret
 exact ⟨rfl, rfl⟩
theorem indexI_no {g n cap : Nat} {f : Nat → Int} {x : Int} (w : World) (hcell : ∀ j, j < n → w.cell? ⟨g, j, none⟩ = some (.int .i64 (f j))) (hne : ∀ j, j < n → f j ≠ x) (hn : n ≤ 1000) : Calls Tryz.prog 78 #[.slice (some ⟨g, 0, none⟩) n cap, .int .i64 x] w fun e w' => e = .returned (.int .i64 (-1)) ∧ w = w' := by
 have HC := Hi hcell
 have HN := Hi hne
 clear hcell hne
 go_enter Tryz.func78, Tryz.ntmps78
 go_wp2
 go_loopw [5, 8] (fun _ iv wr => ∃ k : Nat, k ≤ n ∧ iv = .int .i64 k ∧ w = wr) (fun _ iv _ => n - (intOf iv).toNat)
 case atStart => exact ⟨0, Nat.zero_le _, rfl, rfl⟩
 case round =>
  obtain ⟨k, hk, rfl, rfl⟩ := hrel
  by_cases hlt : k < n
  ·
   have c0 := HC.out k hlt
   have h0 := HN.out k hlt
   generalize f k = y at *
   have h1 : (x == y) = false := by simpa using Ne.symm h0
   have h2 : (x = y) = False := eq_false (Ne.symm h0)
   have hd : decide ((k : Int) < (n : Int)) = true := decide_eq_true (by omega)
   clear h0
   go_wp2
   go_roundw
   case rel => exact ⟨k + 1, by omega, by go_num, trivial⟩
   case measure => simp [intOf]; omega
  ·
   obtain rfl : k = n := by omega
   have hd : decide ((k : Int) < (k : Int)) = false := decide_eq_false (by omega)
   go_wp2
   go_ret
   exact ⟨rfl, rfl⟩
theorem containsI_no {g n cap : Nat} {f : Nat → Int} {x : Int} (w : World) (hcell : ∀ j, j < n → w.cell? ⟨g, j, none⟩ = some (.int .i64 (f j))) (hne : ∀ j, j < n → f j ≠ x) (hn : n ≤ 1000) : Calls Tryz.prog 34 #[.slice (some ⟨g, 0, none⟩) n cap, .int .i64 x] w fun e w' => e = .returned (.bool false) ∧ w = w' := by
 have HI := Hi (indexI_no w (cap := cap) hcell hne hn)
 clear hcell hne
 go_enter Tryz.func34, Tryz.ntmps34
 go_wp2_with fail
 refine HI.out.mono ?_
 rintro e xp ⟨rfl, rfl⟩
 go_wp2
 go_ret
 exact ⟨rfl, rfl⟩
end
section
open Go.RowKit Go.Sort
attribute [local go_sem] Oper.semAt_some

theorem run_bdV (a : Option Addr) (n c : Nat) (sd : Int) (p : Nat) (w : World) : (Instr.build 103 #[(0, .slice a n c), (1, .int .i64 sd), (2, .pointer (some ⟨p, 0, none⟩))]).run Tryz.prog w = .ok (.agg #[.slice a n c, .int .i64 sd, .pointer (some ⟨p, 0, none⟩), .int .i64 0, .int .i64 0, .slice none 0 0, .slice none 0 0]) w := by kernel_rfl
theorem cIn_one (l : List Int) : ∀ u ∈ l.map cIn, u.oneCell' = true := by
 intro u hu
 obtain ⟨r, _, hr⟩ := List.mem_map.1 hu
 rw [← hr]; rfl
def RNewO (w0 : World) (D : Nat → Prop) (L : List Res) (xs : List Int) (sd : Int) (w : World) (e : Ending) (w' : World) : Prop := ∃ a, e = .returned (.tuple #[.pointer (some ⟨a, 0, none⟩), .int .i64 0]) ∧ Own w0 D w' (L ++ [resV a ⟨xs, sd, [], 0, 0, [], 0, []⟩]) ∧ w.heap.size ≤ w'.heap.size
theorem shutV_end {a c : Nat} {xs : List Int} {sd : Int} (h : Own w0 D w (L ++ [rowVs v xs, resC c [], blkV a v c (.slice none 0 0) (.slice none 0 0) sd 0 0])) : Own w0 D w (L ++ [resV a ⟨xs, sd, [], 0, 0, [], 0, []⟩]) := by
 have h1 := (h.rowNew 105 1).rowNew 75 3
 rw [List.append_assoc, List.append_assoc] at h1
 have h2 : Own w0 D w (L ++ [blkV a v c (.slice none 0 0) (.slice none 0 0) sd 0 0, rowVs v xs, resC c [], rowVw (.slice none 0 0) [], rowVd (.slice none 0 0) 0 []]) := h1.perm (List.Perm.append_left L (List.perm_middle (l₁ := [rowVs v xs, resC c []])))
 exact Own.rot (L := [resV a ⟨xs, sd, [], 0, 0, [], 0, []⟩]) (shutV (x := ⟨v, c, .slice none 0 0, .slice none 0 0⟩) (st := ⟨xs, sd, [], 0, 0, [], 0, []⟩) h2.rot)
theorem rnew_o {xs : List Int} {n : Nat} {sd : Int} (h : Own w0 D w L) (i : Nat) (hi : L[i]? = some (rowVs v xs)) (hn : xs.length = n) (h4 : n ≤ 4) (hv : ∀ j (hj : j < xs.length), 1 ≤ xs[j] ∧ xs[j] < 4294967295) (hd : ∀ j k (hj : j < xs.length) (hk : k < xs.length), j < k → xs[j] ≠ xs[k]) (s0 : 0 ≤ sd) (s1 : sd ≤ 4294967295) :
  Calls Tryz.prog 8 #[v, .int .i64 sd] w (RNewO w0 D L xs sd w) := by
 have hr := h.row i hi
 have HO := Hi h
 have HI := Hi hi
 have HV := Hi hv
 have HD := Hi hd
 have HN := Hi hn
 obtain ⟨a, cap, rfl⟩ := row_shape hr
 rw [hn] at hr
 have HR := Hi hr
 have HS := Hi (show 0 ≤ sd ∧ sd ≤ 4294967295 from ⟨s0, s1⟩)
 have m0 : decide ((n : Int) > 4) = false := decide_eq_false (by omega)
 have m1 : decide ((4 : Int) < (n : Int)) = false := decide_eq_false (by omega)
 have m2 : decide (sd > 4294967295) = false := decide_eq_false (by omega)
 have m3 : decide ((4294967295 : Int) < sd) = false := decide_eq_false (by omega)
 have m4 : decide (sd < 0) = false := decide_eq_false (by omega)
 rw [hn]
 clear h hi hv hd hr hn
 have rb := run_bdV
 go_enter Tryz.func8, Tryz.ntmps8
 go_wp2
 go_loopw [6, 7, 21] (fun _ _ iv wr => ∃ k : Nat, k ≤ n ∧ iv = .int .i64 k ∧ w = wr) (fun _ _ iv _ => n - (intOf iv).toNat)
 case atStart => exact ⟨0, Nat.zero_le _, rfl, rfl⟩
 case round =>
  obtain ⟨k, hk, rfl, rfl⟩ := hrel
  by_cases hlt : k < n
  ·
   obtain ⟨g, rfl⟩ := row_some HR.out (by omega)
   have hcc := (row_cells HR.out).1
   have hkl : k < xs.length := by rw [HN.out]; exact hlt
   have c0 : w.cell? ⟨g, k, none⟩ = some (.int .i64 xs[k]) := hcc k _ (by simp [hkl])
   have h0 := HV.out k hkl
   have hf : ∀ j (hj : j < k), xs.getD j 0 = xs[j] := fun j hj => by
    have hjl : j < xs.length := by omega
    simp [hjl]
   have hcl : ∀ j, j < k → w.cell? ⟨g, j, none⟩ = some (.int .i64 (xs.getD j 0)) := fun j hj => by
    have hjl : j < xs.length := by omega
    rw [hf j hj]
    exact hcc j _ (by simp [hjl])
   have hnx : ∀ j, j < k → xs.getD j 0 ≠ xs[k] := fun j hj => by
    rw [hf j hj]
    exact HD.out j k (by omega) hkl hj
   have HC := Hi (containsI_no w (g := g) (n := k) (cap := cap) (f := fun j => xs.getD j 0) (x := xs[k]) hcl hnx (by omega))
   clear hf hcl hnx
   generalize xs[k] = y at *
   obtain ⟨h1, h2⟩ := h0
   have d1 : decide (y < 1) = false := decide_eq_false (by omega)
   have d2 : decide (y ≥ 4294967295) = false := decide_eq_false (by omega)
   have d3 : decide (4294967295 ≤ y) = false := decide_eq_false (by omega)
   have hd : decide ((k : Int) < (n : Int)) = true := decide_eq_true (by omega)
   have hkc : k ≤ cap := by
    obtain ⟨_, ⟨e, _⟩ | ⟨g', cp, cur, e, _, _, hcp, _⟩⟩ := HR.out
    ·
     cases e
    ·
     cases e; omega
   clear hcc hkl
   go_wp2_with fail
   refine HC.out.mono ?_
   rintro e xp ⟨rfl, rfl⟩
   go_wp2
   go_roundw
   case rel => exact ⟨k + 1, by omega, by go_num, trivial⟩
   case measure => simp [intOf]; omega
  ·
   obtain rfl : k = n := by omega
   have hd : decide ((k : Int) < (k : Int)) = false := decide_eq_false (by omega)
   have HI2 := Hi (show L[i]? = some (rowR (.slice a k cap) 3 1 k (xs.map cIn)) by rw [← HN.out]; exact HI.out)
   go_wp2_with fail
   refine (clone_I HO.out i HI2.out (by omega) (cIn_one xs)).mono ?_
   rintro e x1 ⟨u, rfl, hO, hs1⟩
   have HS1 := Hi hs1
   clear hs1
   have hro : x1.ownsRow 0 3 1 u k (xs.map cIn) := hO.row L.length (by simp)
   obtain ⟨ua, uc, rfl⟩ := row_shape hro
   have HO1 := Hi hO
   clear hO hro
   go_wp2_with fail
   refine (cnew_o HO1.out).mono ?_
   rintro e x2 ⟨c, rfl, hO, hs2⟩
   have HO2 := Hi hO
   have HS2 := Hi (Nat.le_trans HS1.out hs2)
   clear hO hs2
   obtain ⟨x3, hx3⟩ : ∃ z, x2.alloc (.cells #[.slice ua k uc, .int .i64 sd, .pointer (some ⟨c, 0, none⟩), .int .i64 0, .int .i64 0, .slice none 0 0, .slice none 0 0] 103) = z := ⟨_, rfl⟩
   obtain ⟨p, hp⟩ : ∃ z, x2.heap.size = z := ⟨_, rfl⟩
   have hO := HO2.out.alloc (.cells #[.slice ua k uc, .int .i64 sd, .pointer (some ⟨c, 0, none⟩), .int .i64 0, .int .i64 0, .slice none 0 0, .slice none 0 0] 103)
   rw [hx3, hp] at hO
   rw [List.append_assoc, List.append_assoc] at hO
   have HO3 := Hi (show Own w0 D x3 (L ++ [rowVs (.slice ua k uc) xs, resC c [], blkV p (.slice ua k uc) c (.slice none 0 0) (.slice none 0 0) sd 0 0]) by
    rw [← HN.out]; rw [← HN.out] at hO; exact hO)
   have HSZ := Hi (show w.heap.size ≤ x3.heap.size from Nat.le_trans HS2.out (by rw [← hx3]; simp))
   clear hO
   go_wp2
   go_ret2
   exact ⟨p, rfl, shutV_end HO3.out, HSZ.out⟩
end
open Go.RowKit Go.Sort Go.Extern.Stop Go.Stop Go.Extern

theorem as_valueOfP (t : Addr) (w : World) : (ReflectliteValue.unpack (.iface 209 (.pointer (some t)))).run Tryz.prog w
  = .ok (.agg #[.pointer (some ⟨3, 209, none⟩), .pointer (some ⟨w.heap.size, 0, none⟩), .int .u64 150]) (w.alloc (.cells #[.pointer (some t)] 209)) := by kernel_rfl
theorem as_typeP (a : Addr) (w : World) : (ReflectliteValue.methodAny (ReflectliteValue.valueError "reflectlite.Value.Type" 0) (fun t _ _ _ => ReflectliteType.toType t) #[.agg #[.pointer (some ⟨3, 209, none⟩), .pointer (some a), .int .u64 150]]).run Tryz.prog w
  = .ok (.iface 281 (.agg #[.pointer (some ⟨3, 209, none⟩)])) w := by kernel_rfl
theorem as_mKind (h : Value) (w : World) : (Go.method 448 281 (.agg #[h]) "Kind").run Tryz.prog w = .ok (235, h) w := by kernel_rfl
theorem as_kindP (w : World) : ((ReflectliteType.abiMethod fun t => (fun a : Nat => Value.int IntKind.u8 (a : Int)) <$> Rtype.kind t) #[.pointer (some ⟨3, 209, none⟩)]).run Tryz.prog w = .ok (.int .u8 22) w := by kernel_rfl
theorem as_kindF (w : World) : ((ReflectliteType.abiMethod fun t => (fun a : Nat => Value.int IntKind.u8 (a : Int)) <$> Rtype.kind t) #[.pointer (some ⟨3, 188, none⟩)]).run Tryz.prog w = .ok (.int .u8 25) w := by kernel_rfl
theorem as_rlm (z : Sem Value) (f : TypeId → Addr → Nat → Nat → Sem Value) (v : Value) :
  ReflectliteValue.method z f #[v] = (do match ← ReflectliteValue.parts v with | none => z | some (t, a, fl) => f t a fl (fl % 32)) := rfl
theorem as_partsP (a : Addr) (w : World) : (ReflectliteValue.parts (.agg #[.pointer (some ⟨3, 209, none⟩), .pointer (some a), .int .u64 150])).run Tryz.prog w = .ok (some (209, a, 150)) w := by kernel_rfl
theorem as_isNilP (a p : Addr) (W : World) (ha : W.cell? a = some (.pointer (some p))) :
  (ReflectliteValue.method (ReflectliteValue.valueError "reflectlite.Value.IsNil" 0) ReflectliteValue.isNil #[.agg #[.pointer (some ⟨3, 209, none⟩), .pointer (some a), .int .u64 150]]).run Tryz.prog W = .ok (.bool false) W := by
 rw [as_rlm]
 simp only [Sem.run_bind, as_partsP, Result.andThen]
 simp [ReflectliteValue.isNil, loadVar, isAgg, underlying, Tryz.underlying209, ha, Result.andThen]
theorem as_mElem (h : Value) (w : World) : (Go.method 448 281 (.agg #[h]) "Elem").run Tryz.prog w = .ok (248, .agg #[h]) w := by kernel_rfl
theorem as_mImpl (h : Value) (w : World) : (Go.method 448 281 (.agg #[h]) "Implements").run Tryz.prog w = .ok (249, .agg #[h]) w := by kernel_rfl
theorem as_mAss (h : Value) (w : World) : (Go.method 448 281 (.agg #[h]) "AssignableTo").run Tryz.prog w = .ok (246, .agg #[h]) w := by kernel_rfl
theorem as_elemP (w : World) : (ReflectliteType.method ReflectliteType.elem #[.agg #[.pointer (some ⟨3, 209, none⟩)]]).run Tryz.prog w = .ok (.iface 281 (.agg #[.pointer (some ⟨3, 188, none⟩)])) w := by kernel_rfl
theorem as_implF (w : World) : (ReflectliteType.relation "Implements" ReflectliteType.implements_ #[.agg #[.pointer (some ⟨3, 188, none⟩)], .iface 281 (.agg #[.pointer (some ⟨3, 165, none⟩)])]).run Tryz.prog w = .ok (.bool true) w := by kernel_rfl
theorem as_typeOfF (v : Value) (w : World) : (ReflectliteType.typeOf #[.iface 188 v]).run Tryz.prog w = .ok (.iface 281 (.agg #[.pointer (some ⟨3, 188, none⟩)])) w := by kernel_rfl
theorem as_assF (w : World) : (ReflectliteType.relation "AssignableTo" ReflectliteType.assignableTo #[.agg #[.pointer (some ⟨3, 188, none⟩)], .iface 281 (.agg #[.pointer (some ⟨3, 188, none⟩)])]).run Tryz.prog w = .ok (.bool true) w := by kernel_rfl
theorem as_valueOfF (n : Int) (w : World) : (ReflectliteValue.unpack (.iface 188 (.agg #[.int .i64 n]))).run Tryz.prog w
  = .ok (.agg #[.pointer (some ⟨3, 188, none⟩), .pointer (some ⟨w.heap.size, 0, none⟩), .int .u64 153]) (w.alloc (.cells #[.int .i64 n] 188)) := by kernel_rfl
theorem as_elemOfP (w : World) : (Rtype.elem? 209).run Tryz.prog w = .ok (some 188) w := by kernel_rfl
theorem as_mkF (p : Addr) (w : World) : (ReflectliteValue.mk 188 p ReflectliteValue.flagAddr).run Tryz.prog w = .ok (.agg #[.pointer (some ⟨3, 188, none⟩), .pointer (some p), .int .u64 409]) w := by kernel_rfl
theorem as_elemV (a p : Addr) (W : World) (ha : W.cell? a = some (.pointer (some p))) :
  (ReflectliteValue.method (ReflectliteValue.valueError "reflectlite.Value.Elem" 0) ReflectliteValue.elem #[.agg #[.pointer (some ⟨3, 209, none⟩), .pointer (some a), .int .u64 150]]).run Tryz.prog W
   = .ok (.agg #[.pointer (some ⟨3, 188, none⟩), .pointer (some p), .int .u64 409]) W := by
 rw [as_rlm]
 simp only [Sem.run_bind, as_partsP, Result.andThen]
 simp [ReflectliteValue.elem, loadVar, isAgg, underlying, Tryz.underlying209, ha, Result.andThen, as_elemOfP, as_mkF]
theorem as_rls (v x : Value) : ReflectliteValue.set #[v, x] = (do
  let (some (dst, a, fl), some (src, b, _)) := (← ReflectliteValue.parts v, ← ReflectliteValue.parts x)
   | unsupported (.noEntry "extern/(internal/reflectlite.Value).Set.zeroValue")
  if fl / ReflectliteValue.flagAddr % 2 == 0 then unsupported (.noEntry "extern/(internal/reflectlite.Value).Set.unaddressable")
  let val ← loadVar src b
  if ← Rtype.directlyAssignable dst src then storeVar dst a val
  else if ← Rtype.implements dst src then
   if (← Rtype.kind src) == 20 then
    match val with
    | .nilIface => unsupported (.noEntry "extern/reflectlite: a nil value of one interface type handed on as a value of another")
    | _ => storeVar dst a val
   else storeVar dst a (.iface src val)
  else panicString ("reflectlite.Set: value of type " ++ (← Rtype.spelt src) ++ " is not assignable to type " ++ (← Rtype.spelt dst))
  pure (.tuple #[])) := rfl
theorem as_partsFa (a : Addr) (w : World) : (ReflectliteValue.parts (.agg #[.pointer (some ⟨3, 188, none⟩), .pointer (some a), .int .u64 409])).run Tryz.prog w = .ok (some (188, a, 409)) w := by kernel_rfl
theorem as_partsF (a : Addr) (w : World) : (ReflectliteValue.parts (.agg #[.pointer (some ⟨3, 188, none⟩), .pointer (some a), .int .u64 153])).run Tryz.prog w = .ok (some (188, a, 153)) w := by kernel_rfl
theorem as_direct (w : World) : (Rtype.directlyAssignable 188 188).run Tryz.prog w = .ok true w := by kernel_rfl
theorem as_infoF : (Tryz.prog.info? 188).map (·.size) = some 1 := by kernel_rfl
theorem as_setF (tb b : Nat) (n old : Int) (W : World) (hb : W.heap[b]? = some (.cells #[.int .i64 n] 188)) (ht : W.cell? ⟨tb, 0, none⟩ = some (.int .i64 old)) (hf : W.frozen? ⟨tb, 0, none⟩ = false) :
  (ReflectliteValue.set #[.agg #[.pointer (some ⟨3, 188, none⟩), .pointer (some ⟨tb, 0, none⟩), .int .u64 409], .agg #[.pointer (some ⟨3, 188, none⟩), .pointer (some ⟨b, 0, none⟩), .int .u64 153]]).run Tryz.prog W
   = .ok (.tuple #[]) (W.setCell ⟨tb, 0, none⟩ (.int .i64 n)) := by
 rw [as_rls]
 simp only [Sem.run_bind, as_partsFa, as_partsF, Result.andThen]
 have hl := run_loadVar_row (P := Tryz.prog) W b 188 188 #[.int .i64 n] (0, 0) _ hb Tryz.underlying188 rfl as_infoF
 simp [ReflectliteValue.flagAddr, hl, Result.andThen, as_direct, storeVar, Value.cells, storeCells, Addr.add]
 rw [run_store Tryz.prog W ⟨tb, 0, none⟩ _ _ (by rfl)]
 simp [ht, hf]

theorem as_hit (n old : Int) (tb : Nat) (w : World) (hg : w.cell? ⟨1, 0, none⟩ = some (.iface 281 (.agg #[.pointer (some ⟨3, 165, none⟩)]))) (ht0 : w.cell? ⟨tb, 0, none⟩ = some (.int .i64 old)) (hf0 : w.frozen? ⟨tb, 0, none⟩ = false) :
  Calls Tryz.prog 118 #[.iface 188 (.agg #[.int .i64 n]), .iface 209 (.pointer (some ⟨tb, 0, none⟩))] w fun ev w' => ev = .returned (.bool true) ∧ w' = ((((w.alloc (.cells #[.pointer (some ⟨tb, 0, none⟩)] 209)).alloc (.cells #[.pointer (some ⟨3, 209, none⟩), .pointer (some ⟨w.heap.size, 0, none⟩), .int .u64 150] 245)).alloc (.cells #[.pointer (some ⟨3, 209, none⟩), .pointer (some ⟨w.heap.size, 0, none⟩), .int .u64 150] 245)).alloc (.cells #[.int .i64 n] 188)).setCell ⟨tb, 0, none⟩ (.int .i64 n) := by
 have h6 := @run_callFunc_extern Tryz.prog 154 _ (fun args => ReflectliteValue.unpack (args.getD 0 (.tuple #[]))) Tryz.func154 (by kernel_rfl) (by kernel_rfl) (by kernel_rfl) (by kernel_rfl)
 have h7 := @run_callFunc_extern Tryz.prog 155 _ (ReflectliteValue.methodAny (ReflectliteValue.valueError "reflectlite.Value.Type" 0) (fun t _ _ _ => ReflectliteType.toType t)) Tryz.func155 (by kernel_rfl) (by kernel_rfl) (by kernel_rfl) (by kernel_rfl)
 have h8 := @run_callFunc_extern Tryz.prog 156 _ (ReflectliteValue.method (ReflectliteValue.valueError "reflectlite.Value.IsNil" 0) ReflectliteValue.isNil) Tryz.func156 (by kernel_rfl) (by kernel_rfl) (by kernel_rfl) (by kernel_rfl)
 have h27 := @run_callFunc_extern Tryz.prog 235 _ (ReflectliteType.abiMethod fun t => do pure (.int .u8 (← Rtype.kind t))) Tryz.func235 (by kernel_rfl) (by kernel_rfl) (by kernel_rfl) (by kernel_rfl)
 have h37 := @run_callFunc_extern Tryz.prog 248 _ (ReflectliteType.method ReflectliteType.elem) Tryz.func248 (by kernel_rfl) (by kernel_rfl) (by kernel_rfl) (by kernel_rfl)
 have h38 := @run_callFunc_extern Tryz.prog 249 _ (ReflectliteType.relation "Implements" ReflectliteType.implements_) Tryz.func249 (by kernel_rfl) (by kernel_rfl) (by kernel_rfl) (by kernel_rfl)
 have h10 := @run_callFunc_extern Tryz.prog 166 _ ReflectliteType.typeOf Tryz.func166 (by kernel_rfl) (by kernel_rfl) (by kernel_rfl) (by kernel_rfl)
 have h35 := @run_callFunc_extern Tryz.prog 246 _ (ReflectliteType.relation "AssignableTo" ReflectliteType.assignableTo) Tryz.func246 (by kernel_rfl) (by kernel_rfl) (by kernel_rfl) (by kernel_rfl)
 have h11 := @run_callFunc_extern Tryz.prog 187 _ (ReflectliteValue.method (ReflectliteValue.valueError "reflectlite.Value.Elem" 0) ReflectliteValue.elem) Tryz.func187 (by kernel_rfl) (by kernel_rfl) (by kernel_rfl) (by kernel_rfl)
 have h12 := @run_callFunc_extern Tryz.prog 188 _ ReflectliteValue.set Tryz.func188 (by kernel_rfl) (by kernel_rfl) (by kernel_rfl) (by kernel_rfl)
 have tO := as_typeOfF
 have mA := as_mAss
 have a25 := as_assF
 have v25 := as_valueOfF
 have f6 := as_valueOfP
 have f7 := as_typeP
 have mK := as_mKind
 have mE := as_mElem
 have mI := as_mImpl
 have k27 := as_kindP
 have k25 := as_kindF
 have e27 := as_elemP
 have i25 := as_implF
 obtain ⟨x1, hx1⟩ : ∃ y, w.alloc (.cells #[.pointer (some ⟨tb, 0, none⟩)] 209) = y := ⟨_, rfl⟩
 obtain ⟨b1, hb1⟩ : ∃ y, w.heap.size = y := ⟨_, rfl⟩
 have n8 := as_isNilP ⟨w.heap.size, 0, none⟩ ⟨tb, 0, none⟩ ((w.alloc (.cells #[.pointer (some ⟨tb, 0, none⟩)] 209)).alloc (.cells #[.pointer (some ⟨3, 209, none⟩), .pointer (some ⟨w.heap.size, 0, none⟩), .int .u64 150] 245)) (by simp)
 have hlt : 1 < w.heap.size := by
  rcases Nat.lt_or_ge 1 w.heap.size with h | h
  ·
   exact h
  ·
   simp [World.cell?, Array.getElem?_eq_none h] at hg
 have hg2 : ((w.alloc (.cells #[.pointer (some ⟨tb, 0, none⟩)] 209)).alloc (.cells #[.pointer (some ⟨3, 209, none⟩), .pointer (some ⟨w.heap.size, 0, none⟩), .int .u64 150] 245)).cell? ⟨1, 0, none⟩ = some (.iface 281 (.agg #[.pointer (some ⟨3, 165, none⟩)])) := by
  rw [World.cell?_alloc_lt _ _ ⟨1, 0, none⟩ (by simp; omega), World.cell?_alloc_lt _ _ ⟨1, 0, none⟩ hlt]; exact hg
 have htl : tb < w.heap.size := by
  rcases Nat.lt_or_ge tb w.heap.size with h | h
  ·
   exact h
  ·
   simp [World.cell?, Array.getElem?_eq_none h] at ht0
 have el := as_elemV ⟨w.heap.size, 0, none⟩ ⟨tb, 0, none⟩ (((w.alloc (.cells #[.pointer (some ⟨tb, 0, none⟩)] 209)).alloc (.cells #[.pointer (some ⟨3, 209, none⟩), .pointer (some ⟨w.heap.size, 0, none⟩), .int .u64 150] 245)).alloc (.cells #[.pointer (some ⟨3, 209, none⟩), .pointer (some ⟨w.heap.size, 0, none⟩), .int .u64 150] 245)) (by rw [World.cell?_alloc_lt _ _ ⟨w.heap.size, 0, none⟩ (by simp; omega)]; simp)
 have st := as_setF tb (w.heap.size + 1 + 1 + 1) n old ((((w.alloc (.cells #[.pointer (some ⟨tb, 0, none⟩)] 209)).alloc (.cells #[.pointer (some ⟨3, 209, none⟩), .pointer (some ⟨w.heap.size, 0, none⟩), .int .u64 150] 245)).alloc (.cells #[.pointer (some ⟨3, 209, none⟩), .pointer (some ⟨w.heap.size, 0, none⟩), .int .u64 150] 245)).alloc (.cells #[.int .i64 n] 188))
  (by have h := heap_alloc_new (((w.alloc (.cells #[.pointer (some ⟨tb, 0, none⟩)] 209)).alloc (.cells #[.pointer (some ⟨3, 209, none⟩), .pointer (some ⟨w.heap.size, 0, none⟩), .int .u64 150] 245)).alloc (.cells #[.pointer (some ⟨3, 209, none⟩), .pointer (some ⟨w.heap.size, 0, none⟩), .int .u64 150] 245)) (.cells #[.int .i64 n] 188); simpa using h)
  (by rw [World.cell?_alloc_lt _ _ ⟨tb, 0, none⟩ (by simp; omega), World.cell?_alloc_lt _ _ ⟨tb, 0, none⟩ (by simp; omega), World.cell?_alloc_lt _ _ ⟨tb, 0, none⟩ (by simp; omega), World.cell?_alloc_lt _ _ ⟨tb, 0, none⟩ htl]; exact ht0)
  (by rw [World.frozen?_alloc_old _ _ ⟨tb, 0, none⟩ (by simp; omega), World.frozen?_alloc_old _ _ ⟨tb, 0, none⟩ (by simp; omega), World.frozen?_alloc_old _ _ ⟨tb, 0, none⟩ (by simp; omega), World.frozen?_alloc_old _ _ ⟨tb, 0, none⟩ (Nat.ne_of_lt htl)]; exact hf0)
 clear hx1 hb1
 go_enter Tryz.func118, Tryz.ntmps118
 go_wp2
 refine wp_loop_rounds 1 ?_
 rw [rounds_succ]
 go_wp2
 go_ret
 exact ⟨rfl, rfl⟩
end Go.Proofs.YtbhglemolpfnkaaGreatDoor
