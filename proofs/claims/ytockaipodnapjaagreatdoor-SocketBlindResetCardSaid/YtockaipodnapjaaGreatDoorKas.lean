/- errors.As of a failure of the socket layer. -/
import Derived.Test.YtockaipodnapjaaGreatDoorProg
import Derived.WalkKit
import Derived.LaidEql
import Derived.Stop.Asserts
import Derived.RowKitTokens
namespace Go.Proofs.YtockaipodnapjaaGreatDoor
open Go.RowKit Go.Extern.Stop Go.Stop Go.Extern
set_option linter.unusedVariables false
set_option maxRecDepth 100000
theorem as_valueOfP (t : Addr) (w : World) : (ReflectliteValue.unpack (.iface 102 (.pointer (some t)))).run Tryz.prog w
    = .ok (.agg #[.pointer (some ⟨4, 102, none⟩), .pointer (some ⟨w.heap.size, 0, none⟩), .int .u64 150]) (w.alloc (.cells #[.pointer (some t)] 102)) := by kernel_rfl
theorem as_typeP (a : Addr) (w : World) : (ReflectliteValue.methodAny (ReflectliteValue.valueError "reflectlite.Value.Type" 0) (fun t _ _ _ => ReflectliteType.toType t) #[.agg #[.pointer (some ⟨4, 102, none⟩), .pointer (some a), .int .u64 150]]).run Tryz.prog w
    = .ok (.iface 233 (.agg #[.pointer (some ⟨4, 102, none⟩)])) w := by kernel_rfl
theorem as_mKind (h : Value) (w : World) : (Go.method 530 233 (.agg #[h]) "Kind").run Tryz.prog w = .ok (365, h) w := by kernel_rfl
theorem as_kindP (w : World) : ((ReflectliteType.abiMethod fun t => (fun a : Nat => Value.int IntKind.u8 (a : Int)) <$> Rtype.kind t) #[.pointer (some ⟨4, 102, none⟩)]).run Tryz.prog w = .ok (.int .u8 22) w := by kernel_rfl
theorem as_kindF (w : World) : ((ReflectliteType.abiMethod fun t => (fun a : Nat => Value.int IntKind.u8 (a : Int)) <$> Rtype.kind t) #[.pointer (some ⟨4, 100, none⟩)]).run Tryz.prog w = .ok (.int .u8 25) w := by kernel_rfl
theorem as_rlm (z : Sem Value) (f : TypeId → Addr → Nat → Nat → Sem Value) (v : Value) :
    ReflectliteValue.method z f #[v] = (do match ← ReflectliteValue.parts v with | none => z | some (t, a, fl) => f t a fl (fl % 32)) := rfl
theorem as_partsP (a : Addr) (w : World) : (ReflectliteValue.parts (.agg #[.pointer (some ⟨4, 102, none⟩), .pointer (some a), .int .u64 150])).run Tryz.prog w = .ok (some (102, a, 150)) w := by kernel_rfl
theorem as_isNilP (a p : Addr) (W : World) (ha : W.cell? a = some (.pointer (some p))) :
    (ReflectliteValue.method (ReflectliteValue.valueError "reflectlite.Value.IsNil" 0) ReflectliteValue.isNil #[.agg #[.pointer (some ⟨4, 102, none⟩), .pointer (some a), .int .u64 150]]).run Tryz.prog W = .ok (.bool false) W := by
  rw [as_rlm]
  simp only [Sem.run_bind, as_partsP, Result.andThen]
  simp [ReflectliteValue.isNil, loadVar, isAgg, underlying, Tryz.underlying102, ha, Result.andThen]
theorem as_mElem (h : Value) (w : World) : (Go.method 530 233 (.agg #[h]) "Elem").run Tryz.prog w = .ok (378, .agg #[h]) w := by kernel_rfl
theorem as_mImpl (h : Value) (w : World) : (Go.method 530 233 (.agg #[h]) "Implements").run Tryz.prog w = .ok (379, .agg #[h]) w := by kernel_rfl
theorem as_mAss (h : Value) (w : World) : (Go.method 530 233 (.agg #[h]) "AssignableTo").run Tryz.prog w = .ok (376, .agg #[h]) w := by kernel_rfl
theorem as_elemP (w : World) : (ReflectliteType.method ReflectliteType.elem #[.agg #[.pointer (some ⟨4, 102, none⟩)]]).run Tryz.prog w = .ok (.iface 233 (.agg #[.pointer (some ⟨4, 100, none⟩)])) w := by kernel_rfl
theorem as_implF (w : World) : (ReflectliteType.relation "Implements" ReflectliteType.implements_ #[.agg #[.pointer (some ⟨4, 100, none⟩)], .iface 233 (.agg #[.pointer (some ⟨4, 96, none⟩)])]).run Tryz.prog w = .ok (.bool true) w := by kernel_rfl
theorem as_typeOfF (v : Value) (w : World) : (ReflectliteType.typeOf #[.iface 100 v]).run Tryz.prog w = .ok (.iface 233 (.agg #[.pointer (some ⟨4, 100, none⟩)])) w := by kernel_rfl
theorem as_assF (w : World) : (ReflectliteType.relation "AssignableTo" ReflectliteType.assignableTo #[.agg #[.pointer (some ⟨4, 100, none⟩)], .iface 233 (.agg #[.pointer (some ⟨4, 100, none⟩)])]).run Tryz.prog w = .ok (.bool true) w := by kernel_rfl
theorem as_valueOfF (n : Int) (w : World) : (ReflectliteValue.unpack (.iface 100 (.agg #[.int .i64 n]))).run Tryz.prog w
    = .ok (.agg #[.pointer (some ⟨4, 100, none⟩), .pointer (some ⟨w.heap.size, 0, none⟩), .int .u64 153]) (w.alloc (.cells #[.int .i64 n] 100)) := by kernel_rfl
theorem as_elemOfP (w : World) : (Rtype.elem? 102).run Tryz.prog w = .ok (some 100) w := by kernel_rfl
theorem as_mkF (p : Addr) (w : World) : (ReflectliteValue.mk 100 p ReflectliteValue.flagAddr).run Tryz.prog w = .ok (.agg #[.pointer (some ⟨4, 100, none⟩), .pointer (some p), .int .u64 409]) w := by kernel_rfl
theorem as_elemV (a p : Addr) (W : World) (ha : W.cell? a = some (.pointer (some p))) :
    (ReflectliteValue.method (ReflectliteValue.valueError "reflectlite.Value.Elem" 0) ReflectliteValue.elem #[.agg #[.pointer (some ⟨4, 102, none⟩), .pointer (some a), .int .u64 150]]).run Tryz.prog W
      = .ok (.agg #[.pointer (some ⟨4, 100, none⟩), .pointer (some p), .int .u64 409]) W := by
  rw [as_rlm]
  simp only [Sem.run_bind, as_partsP, Result.andThen]
  simp [ReflectliteValue.elem, loadVar, isAgg, underlying, Tryz.underlying102, ha, Result.andThen, as_elemOfP, as_mkF]
theorem as_rls (v x : Value) : ReflectliteValue.set #[v, x] = (do
    let (some (dst, a, fl), some (src, b, _)) := (← ReflectliteValue.parts v, ← ReflectliteValue.parts x)
      | unsupported (.noEntry "extern/(internal/reflectlite.Value).Set.zeroValue")
    if fl / ReflectliteValue.flagAddr % 2 == 0 then unsupported (.noEntry "extern/(internal/reflectlite.Value).Set.unaddressable")
    let val ← loadVar src b
    if ← Rtype.directlyAssignable dst src then storeVar dst a val
    else if ← Rtype.implements dst src then
      if (← Rtype.kind src) == 20 then
        match val with
        | .nilIface => unsupported (.noEntry "extern/reflectlite: a nil value of one interface type handed on as a value of another")
        | _ => storeVar dst a val
      else storeVar dst a (.iface src val)
    else panicString ("reflectlite.Set: value of type " ++ (← Rtype.spelt src) ++ " is not assignable to type " ++ (← Rtype.spelt dst))
    pure (.tuple #[])) := rfl
theorem as_partsFa (a : Addr) (w : World) : (ReflectliteValue.parts (.agg #[.pointer (some ⟨4, 100, none⟩), .pointer (some a), .int .u64 409])).run Tryz.prog w = .ok (some (100, a, 409)) w := by kernel_rfl
theorem as_partsF (a : Addr) (w : World) : (ReflectliteValue.parts (.agg #[.pointer (some ⟨4, 100, none⟩), .pointer (some a), .int .u64 153])).run Tryz.prog w = .ok (some (100, a, 153)) w := by kernel_rfl
theorem as_direct (w : World) : (Rtype.directlyAssignable 100 100).run Tryz.prog w = .ok true w := by kernel_rfl
theorem as_infoF : (Tryz.prog.info? 100).map (·.size) = some 1 := by kernel_rfl
theorem as_setF (tb b : Nat) (n old : Int) (W : World) (hb : W.heap[b]? = some (.cells #[.int .i64 n] 100)) (ht : W.cell? ⟨tb, 0, none⟩ = some (.int .i64 old)) (hf : W.frozen? ⟨tb, 0, none⟩ = false) :
    (ReflectliteValue.set #[.agg #[.pointer (some ⟨4, 100, none⟩), .pointer (some ⟨tb, 0, none⟩), .int .u64 409], .agg #[.pointer (some ⟨4, 100, none⟩), .pointer (some ⟨b, 0, none⟩), .int .u64 153]]).run Tryz.prog W
      = .ok (.tuple #[]) (W.setCell ⟨tb, 0, none⟩ (.int .i64 n)) := by
  rw [as_rls]
  simp only [Sem.run_bind, as_partsFa, as_partsF, Result.andThen]
  have hl := run_loadVar_row (P := Tryz.prog) W b 100 100 #[.int .i64 n] (0, 0) _ hb Tryz.underlying100 rfl as_infoF
  simp [ReflectliteValue.flagAddr, hl, Result.andThen, as_direct, storeVar, Value.cells, storeCells, Addr.add]
  rw [run_store Tryz.prog W ⟨tb, 0, none⟩ _ _ (by rfl)]
  simp [ht, hf]
set_option maxHeartbeats 8000000 in
theorem as_hit (n old : Int) (tb : Nat) (w : World) (hg : w.cell? ⟨0, 0, none⟩ = some (.iface 233 (.agg #[.pointer (some ⟨4, 96, none⟩)]))) (ht0 : w.cell? ⟨tb, 0, none⟩ = some (.int .i64 old)) (hf0 : w.frozen? ⟨tb, 0, none⟩ = false) :
    Calls Tryz.prog 45 #[.iface 100 (.agg #[.int .i64 n]), .iface 102 (.pointer (some ⟨tb, 0, none⟩))] w fun ev w' => ev = .returned (.bool true) ∧ w' = ((((w.alloc (.cells #[.pointer (some ⟨tb, 0, none⟩)] 102)).alloc (.cells #[.pointer (some ⟨4, 102, none⟩), .pointer (some ⟨w.heap.size, 0, none⟩), .int .u64 150] 182)).alloc (.cells #[.pointer (some ⟨4, 102, none⟩), .pointer (some ⟨w.heap.size, 0, none⟩), .int .u64 150] 182)).alloc (.cells #[.int .i64 n] 100)).setCell ⟨tb, 0, none⟩ (.int .i64 n) := by
  have h6 := @run_callFunc_extern Tryz.prog 74 _ (fun args => ReflectliteValue.unpack (args.getD 0 (.tuple #[]))) Tryz.func74 (by kernel_rfl) (by kernel_rfl) (by kernel_rfl) (by kernel_rfl)
  have h7 := @run_callFunc_extern Tryz.prog 75 _ (ReflectliteValue.methodAny (ReflectliteValue.valueError "reflectlite.Value.Type" 0) (fun t _ _ _ => ReflectliteType.toType t)) Tryz.func75 (by kernel_rfl) (by kernel_rfl) (by kernel_rfl) (by kernel_rfl)
  have h8 := @run_callFunc_extern Tryz.prog 76 _ (ReflectliteValue.method (ReflectliteValue.valueError "reflectlite.Value.IsNil" 0) ReflectliteValue.isNil) Tryz.func76 (by kernel_rfl) (by kernel_rfl) (by kernel_rfl) (by kernel_rfl)
  have h27 := @run_callFunc_extern Tryz.prog 365 _ (ReflectliteType.abiMethod fun t => do pure (.int .u8 (← Rtype.kind t))) Tryz.func365 (by kernel_rfl) (by kernel_rfl) (by kernel_rfl) (by kernel_rfl)
  have h37 := @run_callFunc_extern Tryz.prog 378 _ (ReflectliteType.method ReflectliteType.elem) Tryz.func378 (by kernel_rfl) (by kernel_rfl) (by kernel_rfl) (by kernel_rfl)
  have h38 := @run_callFunc_extern Tryz.prog 379 _ (ReflectliteType.relation "Implements" ReflectliteType.implements_) Tryz.func379 (by kernel_rfl) (by kernel_rfl) (by kernel_rfl) (by kernel_rfl)
  have h10 := @run_callFunc_extern Tryz.prog 154 _ ReflectliteType.typeOf Tryz.func154 (by kernel_rfl) (by kernel_rfl) (by kernel_rfl) (by kernel_rfl)
  have h35 := @run_callFunc_extern Tryz.prog 376 _ (ReflectliteType.relation "AssignableTo" ReflectliteType.assignableTo) Tryz.func376 (by kernel_rfl) (by kernel_rfl) (by kernel_rfl) (by kernel_rfl)
  have h11 := @run_callFunc_extern Tryz.prog 155 _ (ReflectliteValue.method (ReflectliteValue.valueError "reflectlite.Value.Elem" 0) ReflectliteValue.elem) Tryz.func155 (by kernel_rfl) (by kernel_rfl) (by kernel_rfl) (by kernel_rfl)
  have h12 := @run_callFunc_extern Tryz.prog 156 _ ReflectliteValue.set Tryz.func156 (by kernel_rfl) (by kernel_rfl) (by kernel_rfl) (by kernel_rfl)
  have tO := as_typeOfF
  have mA := as_mAss
  have a25 := as_assF
  have v25 := as_valueOfF
  have f6 := as_valueOfP
  have f7 := as_typeP
  have mK := as_mKind
  have mE := as_mElem
  have mI := as_mImpl
  have k27 := as_kindP
  have k25 := as_kindF
  have e27 := as_elemP
  have i25 := as_implF
  obtain ⟨x1, hx1⟩ : ∃ y, w.alloc (.cells #[.pointer (some ⟨tb, 0, none⟩)] 102) = y := ⟨_, rfl⟩
  obtain ⟨b1, hb1⟩ : ∃ y, w.heap.size = y := ⟨_, rfl⟩
  have n8 := as_isNilP ⟨w.heap.size, 0, none⟩ ⟨tb, 0, none⟩ ((w.alloc (.cells #[.pointer (some ⟨tb, 0, none⟩)] 102)).alloc (.cells #[.pointer (some ⟨4, 102, none⟩), .pointer (some ⟨w.heap.size, 0, none⟩), .int .u64 150] 182)) (by simp)
  have hlt : 0 < w.heap.size := by
    rcases Nat.lt_or_ge 0 w.heap.size with h | h
    · exact h
    · simp [World.cell?, Array.getElem?_eq_none h] at hg
  have hg2 : ((w.alloc (.cells #[.pointer (some ⟨tb, 0, none⟩)] 102)).alloc (.cells #[.pointer (some ⟨4, 102, none⟩), .pointer (some ⟨w.heap.size, 0, none⟩), .int .u64 150] 182)).cell? ⟨0, 0, none⟩ = some (.iface 233 (.agg #[.pointer (some ⟨4, 96, none⟩)])) := by
    rw [World.cell?_alloc_lt _ _ ⟨0, 0, none⟩ (by simp <;> omega), World.cell?_alloc_lt _ _ ⟨0, 0, none⟩ hlt]; exact hg
  have htl : tb < w.heap.size := by
    rcases Nat.lt_or_ge tb w.heap.size with h | h
    · exact h
    · simp [World.cell?, Array.getElem?_eq_none h] at ht0
  have el := as_elemV ⟨w.heap.size, 0, none⟩ ⟨tb, 0, none⟩ (((w.alloc (.cells #[.pointer (some ⟨tb, 0, none⟩)] 102)).alloc (.cells #[.pointer (some ⟨4, 102, none⟩), .pointer (some ⟨w.heap.size, 0, none⟩), .int .u64 150] 182)).alloc (.cells #[.pointer (some ⟨4, 102, none⟩), .pointer (some ⟨w.heap.size, 0, none⟩), .int .u64 150] 182)) (by rw [World.cell?_alloc_lt _ _ ⟨w.heap.size, 0, none⟩ (by simp <;> omega)]; simp)
  have st := as_setF tb (w.heap.size + 1 + 1 + 1) n old ((((w.alloc (.cells #[.pointer (some ⟨tb, 0, none⟩)] 102)).alloc (.cells #[.pointer (some ⟨4, 102, none⟩), .pointer (some ⟨w.heap.size, 0, none⟩), .int .u64 150] 182)).alloc (.cells #[.pointer (some ⟨4, 102, none⟩), .pointer (some ⟨w.heap.size, 0, none⟩), .int .u64 150] 182)).alloc (.cells #[.int .i64 n] 100))
    (by have h := heap_alloc_new (((w.alloc (.cells #[.pointer (some ⟨tb, 0, none⟩)] 102)).alloc (.cells #[.pointer (some ⟨4, 102, none⟩), .pointer (some ⟨w.heap.size, 0, none⟩), .int .u64 150] 182)).alloc (.cells #[.pointer (some ⟨4, 102, none⟩), .pointer (some ⟨w.heap.size, 0, none⟩), .int .u64 150] 182)) (.cells #[.int .i64 n] 100); simpa using h)
    (by rw [World.cell?_alloc_lt _ _ ⟨tb, 0, none⟩ (by simp <;> omega), World.cell?_alloc_lt _ _ ⟨tb, 0, none⟩ (by simp <;> omega), World.cell?_alloc_lt _ _ ⟨tb, 0, none⟩ (by simp <;> omega), World.cell?_alloc_lt _ _ ⟨tb, 0, none⟩ htl]; exact ht0)
    (by rw [World.frozen?_alloc_old _ _ ⟨tb, 0, none⟩ (by simp <;> omega), World.frozen?_alloc_old _ _ ⟨tb, 0, none⟩ (by simp <;> omega), World.frozen?_alloc_old _ _ ⟨tb, 0, none⟩ (by simp <;> omega), World.frozen?_alloc_old _ _ ⟨tb, 0, none⟩ (Nat.ne_of_lt htl)]; exact hf0)
  clear hx1 hb1
  go_enter Tryz.func45, Tryz.ntmps45
  go_wp2
  refine wp_loop_rounds 1 ?_
  rw [rounds_succ]
  go_wp2
  go_ret
  exact ⟨rfl, rfl⟩
end Go.Proofs.YtockaipodnapjaaGreatDoor
