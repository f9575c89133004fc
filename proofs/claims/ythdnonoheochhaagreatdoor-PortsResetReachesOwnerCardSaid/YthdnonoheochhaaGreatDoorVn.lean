/- A machine of symbolic values: contracts at the program. -/
import Derived.Test.YthdnonoheochhaaGreatDoorVf
import Derived.Test.YthdnonoheochhaaGreatDoorVk
import Derived.Test.YthdnonoheochhaaGreatDoorKky
import Derived.Test.YthdnonoheochhaaGreatDoorSp
namespace Go.Proofs.YthdnonoheochhaaGreatDoor
open Go Go.RowKit
set_option linter.unusedVariables false
theorem KeyRun.via {α β : Type} [DecidableEq α] [DecidableEq β] {enc : α → Value} {enc' : β → Value} {P : Program} {t : TypeId} (K : KeyRun P t enc) (f : β → α) (hf : ∀ a b, f a = f b → a = b) (he : ∀ b, enc' b = enc (f b)) : KeyRun P t enc' where
  check := fun e k w => by rw [he]; exact K.check e (f k) w
  find := by
    have hd : ∀ a b : β, decide (f a = f b) = decide (a = b) := fun a b => decide_eq_decide.2 ⟨hf a b, fun h => by rw [h]⟩
    obtain ⟨desc, h1, h2 | ⟨h2, h3⟩⟩ := K.find
    · exact ⟨desc, h1, .inl fun a b => by rw [he, he, h2, hd]⟩
    · exact ⟨desc, h1, .inr ⟨fun a b => by rw [he, he, h2], fun a b w => by rw [he, he, h3, hd]⟩⟩
  bits := fun a => by rw [he]; exact K.bits (f a)
def kofS (t : TypeId) : Option (Nat × Bool) := match Nat.beq t 3 with
  | true => some (0, false)
  | false => (match Nat.beq t 68 with
    | true => some (1, false)
    | false => (match Nat.beq t 77 with
      | true => some (2, false)
      | false => none))
def kB : Key → Bk
  | .p a b => ⟨a, b⟩
  | _ => ⟨0, 0⟩
def kC : Key → Ck
  | .t a b c => ⟨a, b, c⟩
  | _ => ⟨0, 0, 0⟩
theorem keyOK : KeyOK Tryz.prog kofS := by
  intro t kd s h
  unfold kofS at h
  split at h
  · rename_i ht
    obtain rfl := Nat.eq_of_beq_eq_true ht
    cases h
    refine KeyRun.via (f := fun k : KeyK 0 => kI k.1) keyN ?_ ?_
    · rintro ⟨a, ha⟩ ⟨b, hb⟩ e
      cases a <;> cases ha
      cases b <;> cases hb
      simp only [kI] at e
      subst e; rfl
    · rintro ⟨a, ha⟩
      cases a <;> cases ha
      rfl
  · split at h
    · rename_i ht
      obtain rfl := Nat.eq_of_beq_eq_true ht
      cases h
      refine KeyRun.via (f := fun k : KeyK 1 => kB k.1) keyB ?_ ?_
      · rintro ⟨a, ha⟩ ⟨b, hb⟩ e
        cases a <;> cases ha
        cases b <;> cases hb
        simp only [kB, Bk.mk.injEq] at e
        obtain ⟨rfl, rfl⟩ := e; rfl
      · rintro ⟨a, ha⟩
        cases a <;> cases ha
        rfl
    · split at h
      · rename_i ht
        obtain rfl := Nat.eq_of_beq_eq_true ht
        cases h
        refine KeyRun.via (f := fun k : KeyK 2 => kC k.1) keyC ?_ ?_
        · rintro ⟨a, ha⟩ ⟨b, hb⟩ e
          cases a <;> cases ha
          cases b <;> cases hb
          simp only [kC, Ck.mk.injEq] at e
          obtain ⟨rfl, rfl, rfl⟩ := e; rfl
        · rintro ⟨a, ha⟩
          cases a <;> cases ha
          rfl
      · cases h
theorem noGor : Tryz.prog.funcs.toList.all (fun fn => !(fn.name == "runtime.NumGoroutine")) = true := by kernel_rfl
theorem entr : Entr Tryz.prog kofS where
  mixed := by kernel_rfl
  name := fun f fn h => by
    have h1 := List.all_eq_true.1 noGor fn (List.mem_of_getElem? (by rw [Array.getElem?_toList]; exact h))
    simpa using h1
  keys := keyOK
end Go.Proofs.YthdnonoheochhaaGreatDoor
namespace Go.Proofs.YthdnonoheochhaaGreatDoor
open Go Go.RowKit
set_option linter.unusedVariables false
theorem put_hit (K : Nat) (ns : List Int) (g cp : Nat) (w : World) (hk : K = 1 ∨ K = 2 ∨ K = 4) (h0 : 0 < ns.length) (h1 : ns.length ≤ 1000) (hr : ∀ n ∈ ns, 0 ≤ n ∧ n < 256 ^ K) (hc : ∀ k (h : k < ns.length), w.cell? ⟨g, k, none⟩ = some (.int .i64 ns[k])) :
    Calls Tryz.prog 34 #[.int .i64 (Int.ofNat K), .slice (some ⟨g, 0, none⟩) ns.length cp] w fun e w' => e = .returned (.string ⟨(putL K ns).toArray⟩) ∧ Below w.heap.size w w' := by
  refine sputC K (by omega) ns ns.length rfl h0 ?_ (fun n hn w => ?_) w g cp hc
  · have : ns.length * K ≤ 1000 * 4 := Nat.mul_le_mul h1 (by omega)
    omega
  · obtain ⟨a, b⟩ := hr n hn
    rcases hk with rfl | rfl | rfl
    · exact put_1 n w a (by simpa using b)
    · exact put_2 n w a (by simpa using b)
    · exact put_4 n w a (by simpa using b)
end Go.Proofs.YthdnonoheochhaaGreatDoor
namespace Go.Proofs.YthdnonoheochhaaGreatDoor
open Go Go.RowKit
set_option linter.unusedVariables false
set_option maxRecDepth 100000
section
variable {A : Type} {ar : A → List Value → Value → Res} {P : Program}
def noT : FuncId → Option (List V → T A) := fun _ => none
def addT (tbl : FuncId → Option (List V → T A)) (g : FuncId) (c : List V → T A) : FuncId → Option (List V → T A) := fun f => match Nat.beq f g with
  | true => some c
  | false => tbl f
def TblOK (ar : A → List Value → Value → Res) (P : Program) (tbl : FuncId → Option (List V → T A)) : Prop := ∀ f s, tbl f = some s → ∀ args, CallOK ar P f args (s args)
theorem noT_ok : TblOK ar P (noT : FuncId → Option (List V → T A)) := fun f s h => by cases h
theorem addT_ok {tbl : FuncId → Option (List V → T A)} {g : FuncId} {c : List V → T A} (h : TblOK ar P tbl) (hc : ∀ args, CallOK ar P g args (c args)) : TblOK ar P (addT tbl g c) := by
  intro f s hs
  unfold addT at hs
  split at hs
  · rename_i hf
    obtain rfl := Nat.eq_of_beq_eq_true hf
    cases hs
    exact hc
  · exact h f s hs
end
def arW (a : Nat) (l : List Value) (v : Value) : Res := match a, l with
  | 2, [.string z] => resB (blkOf v) (bL z)
  | _, _ => noR
theorem arW_2 (z : ByteArray) (v : Value) : arW 2 [.string z] v = resB (blkOf v) (bL z) := rfl
theorem newB_own (D : Nat → Prop) (w : World) (b : Nat) (h : Own w D w [blkR b (.cells #[.pointer none, .slice none 0 0] 123)]) : Own w D w [resB b []] :=
  shutB (L := []) (.inl rfl) (h.rowNew 5 1)
theorem ws_hit (D : Nat → Prop) (w : World) (b : Nat) (bs : List UInt8) (s : ByteArray) (h : Own w D w [resB b bs]) (hl : bs.length + s.size ≤ 1000000) :
    Calls Tryz.prog 67 #[.pointer (some ⟨b, 0, none⟩), .string s] w (OPost w D [resB b (bs ++ bL s)] (.tuple #[.int .i64 s.size, .nilIface]) w) := writeStrB s h 0 rfl hl
theorem bs_hit (D : Nat → Prop) (w : World) (b : Nat) (bs : List UInt8) (h : Own w D w [resB b bs]) (hl : bs.length ≤ 1000000) (h0 : bs ≠ []) : Calls Tryz.prog 69 #[.pointer (some ⟨b, 0, none⟩)] w (OPost w D [junkR] (.string ⟨bs.toArray⟩) w) := bStringB h 0 rfl hl h0
theorem gt_hit (s : ByteArray) (p k : Nat) (hk : k = 1 ∨ k = 2 ∨ k = 4) (hp : p + k ≤ s.size) (hs : s.size ≤ 100000) (w : World) : Calls Tryz.prog 73 #[.string s, .int .i64 p, .int .i64 k] w fun e w' => e = .returned (.tuple #[.int .i64 (beD ((s.data.toList.drop p).take k)), .int .i64 0]) ∧ Below w.heap.size w w' := by
  have h1 : s.size ≤ maxLen := by unfold maxLen; omega
  rcases hk with rfl | rfl | rfl
  · exact get_1 s p w hp h1
  · exact get_2 s p w hp h1
  · exact get_4 s p w hp h1
def tb0 : FuncId → Option (List V → T Nat) := noT
def tb1 : FuncId → Option (List V → T Nat) := addT (addT (addT noT 34 (sgPutC 3)) 67 (wsC 123 2)) 69 (bsC 2)
theorem tb1_ok : TblOK arW Tryz.prog tb1 :=
  addT_ok (addT_ok (addT_ok noT_ok (sgPutC_ok put_hit)) (wsC_ok arW_2 newB_own ws_hit)) (bsC_ok arW_2 bs_hit)
def Sg.vf (s : Sg) : List V := [.int true .i64 s.fp, .int true .i64 s.tp, .int true .i64 s.sq, .int true .i64 s.ak, .bool false s.sy, .bool false s.fi, .bool false s.rs, .bool false s.ha, .int true .i64 s.wn, .int true .i64 s.ms, .bool false s.sa, .lit (.slice none 0 0), .str true s.d]
theorem fb_run (s : Sg) : runD Tryz.prog kofS tb0 100 68 [.agg s.vf] [] = some ([], [.int false .i64 (fB s.sy s.fi s.rs s.ha s.sa)]) := by
  obtain ⟨fp, tp, sq, ak, sy, fi, rs, ha, wn, ms, sa, d⟩ := s
  cases sy <;> cases fi <;> cases rs <;> cases ha <;> cases sa <;> kernel_rfl
theorem fb_hit (s : Sg) (w : World) : Calls Tryz.prog 68 #[.agg s.cells.toArray] w fun e w' => e = .returned (.int .i64 (fB s.sy s.fi s.rs s.ha s.sa)) ∧ Below w.heap.size w w' :=
  vm_data (ar := arW) (args := [.agg s.vf]) entr noT_ok rfl rfl (fb_run s) okO_nil w
end Go.Proofs.YthdnonoheochhaaGreatDoor
namespace Go.Proofs.YthdnonoheochhaaGreatDoor
open Go Go.RowKit
set_option linter.unusedVariables false
set_option maxRecDepth 100000
theorem vl_10000 (fp tp sq ak wn ms : Int) (d : ByteArray) : runD Tryz.prog kofS tb0 100 31 [.agg (Sg.vf ⟨fp, tp, sq, ak, true, false, false, false, wn, ms, false, d⟩)] [true, true, true, true, true, true, true, true, true, true, true, true, true, true, true, true, true, true, true, true, true, true, true, true, true, true, true, true, true, true, true, true, true, true, true, true, true, false, false, false, false, false, false, true, true, true, false, true, false, false, false, false, false, false, false] = some ([(!!ilt 1024 ms, false), (!!ilt 1024 ms, false), (!!ilt 1024 ms, false), (!!ilt 1024 ms, false), (!!ilt 65535 wn, false), (!!ilt 65535 wn, false), (ieq ms 0, false), (!ilt ms 28, true), (ieq ms 0, false), (!ilt ms 28, true), (!ilt ms 28, true), (!ilt ms 28, true), (ieq ms 0, false), (ieq ms 0, false), (ieq ms 0, false), (ieq ms 0, false), (!!ilt 65535 wn, false), (!!ilt 65535 wn, false), (!ilt wn 0, true), (!ilt wn 0, true), (!ilt wn 0, true), (!ilt wn 0, true), (ieq ak 0, true), (ieq ak 0, true), (ieq ak 0, true), (ieq ak 0, true), (!ilt 4294967295 ak, true), (!ilt 4294967295 ak, true), (!ilt 4294967295 ak, true), (!ilt 4294967295 ak, true), (!ilt 4294967295 ak, true), (!ilt 4294967295 sq, true), (!ilt ak 0, true), (!ilt ak 0, true), (!ilt ak 0, true), (!ilt 4294967295 sq, true), (!ilt 4294967295 sq, true), (!ilt 4294967295 sq, true), (!ilt 65535 tp, true), (!ilt sq 0, true), (!ilt sq 0, true), (!ilt sq 0, true), (!ilt 65535 tp, true), (!ilt 65535 tp, true), (!ilt 65535 tp, true), (!ilt 65535 fp, true), (!ilt tp 1, true), (!ilt tp 1, true), (!ilt tp 1, true), (!ilt 65535 fp, true), (!ilt 65535 fp, true), (!ilt 65535 fp, true), (!ilt fp 1, true), (!ilt fp 1, true), (!ilt fp 1, true)], [.bool true (leqB (bL d) [])]) := by kernel_rfl
theorem vl_10001 (fp tp sq ak wn ms : Int) (d : ByteArray) : runD Tryz.prog kofS tb0 100 31 [.agg (Sg.vf ⟨fp, tp, sq, ak, true, false, false, false, wn, ms, true, d⟩)] [true, true, true, true, true, true, true, true, true, true, true, true, true, true, true, true, true, true, true, true, true, true, true, true, true, true, true, true, true, true, true, true, true, true, true, true, true, false, false, false, false, false, false, true, true, true, false, true, false, false, false, false, false, false, false] = some ([(!!ilt 1024 ms, false), (!!ilt 1024 ms, false), (!!ilt 1024 ms, false), (!!ilt 1024 ms, false), (!!ilt 65535 wn, false), (!!ilt 65535 wn, false), (ieq ms 0, false), (!ilt ms 28, true), (ieq ms 0, false), (!ilt ms 28, true), (!ilt ms 28, true), (!ilt ms 28, true), (ieq ms 0, false), (ieq ms 0, false), (ieq ms 0, false), (ieq ms 0, false), (!!ilt 65535 wn, false), (!!ilt 65535 wn, false), (!ilt wn 0, true), (!ilt wn 0, true), (!ilt wn 0, true), (!ilt wn 0, true), (ieq ak 0, true), (ieq ak 0, true), (ieq ak 0, true), (ieq ak 0, true), (!ilt 4294967295 ak, true), (!ilt 4294967295 ak, true), (!ilt 4294967295 ak, true), (!ilt 4294967295 ak, true), (!ilt 4294967295 ak, true), (!ilt 4294967295 sq, true), (!ilt ak 0, true), (!ilt ak 0, true), (!ilt ak 0, true), (!ilt 4294967295 sq, true), (!ilt 4294967295 sq, true), (!ilt 4294967295 sq, true), (!ilt 65535 tp, true), (!ilt sq 0, true), (!ilt sq 0, true), (!ilt sq 0, true), (!ilt 65535 tp, true), (!ilt 65535 tp, true), (!ilt 65535 tp, true), (!ilt 65535 fp, true), (!ilt tp 1, true), (!ilt tp 1, true), (!ilt tp 1, true), (!ilt 65535 fp, true), (!ilt 65535 fp, true), (!ilt 65535 fp, true), (!ilt fp 1, true), (!ilt fp 1, true), (!ilt fp 1, true)], [.bool true (leqB (bL d) [])]) := by kernel_rfl
theorem vl_10010 (fp tp sq ak wn ms : Int) (d : ByteArray) : runD Tryz.prog kofS tb0 100 31 [.agg (Sg.vf ⟨fp, tp, sq, ak, true, false, false, true, wn, ms, false, d⟩)] [true, true, true, true, true, true, true, true, true, true, true, true, true, true, true, true, true, true, true, true, true, true, true, true, true, true, true, true, true, true, true, true, true, false, false, false, false, false, false, true, true, true, false, true, false, false, false, false, false, false, false] = some ([(!!ilt 1024 ms, false), (!!ilt 1024 ms, false), (!!ilt 1024 ms, false), (!!ilt 1024 ms, false), (!!ilt 65535 wn, false), (!!ilt 65535 wn, false), (ieq ms 0, false), (!ilt ms 28, true), (ieq ms 0, false), (!ilt ms 28, true), (!ilt ms 28, true), (!ilt ms 28, true), (ieq ms 0, false), (ieq ms 0, false), (ieq ms 0, false), (ieq ms 0, false), (!!ilt 65535 wn, false), (!!ilt 65535 wn, false), (!ilt wn 0, true), (!ilt wn 0, true), (!ilt wn 0, true), (!ilt wn 0, true), (!ilt 4294967295 ak, true), (!ilt 4294967295 ak, true), (!ilt 4294967295 ak, true), (!ilt 4294967295 ak, true), (!ilt 4294967295 ak, true), (!ilt 4294967295 sq, true), (!ilt ak 0, true), (!ilt ak 0, true), (!ilt ak 0, true), (!ilt 4294967295 sq, true), (!ilt 4294967295 sq, true), (!ilt 4294967295 sq, true), (!ilt 65535 tp, true), (!ilt sq 0, true), (!ilt sq 0, true), (!ilt sq 0, true), (!ilt 65535 tp, true), (!ilt 65535 tp, true), (!ilt 65535 tp, true), (!ilt 65535 fp, true), (!ilt tp 1, true), (!ilt tp 1, true), (!ilt tp 1, true), (!ilt 65535 fp, true), (!ilt 65535 fp, true), (!ilt 65535 fp, true), (!ilt fp 1, true), (!ilt fp 1, true), (!ilt fp 1, true)], [.bool true (leqB (bL d) [])]) := by kernel_rfl
theorem vl_10011 (fp tp sq ak wn ms : Int) (d : ByteArray) : runD Tryz.prog kofS tb0 100 31 [.agg (Sg.vf ⟨fp, tp, sq, ak, true, false, false, true, wn, ms, true, d⟩)] [true, true, true, true, true, true, true, true, true, true, true, true, true, true, true, true, true, true, true, true, true, true, true, true, true, true, true, true, true, true, true, true, true, false, false, false, false, false, false, true, true, true, false, true, false, false, false, false, false, false, false] = some ([(!!ilt 1024 ms, false), (!!ilt 1024 ms, false), (!!ilt 1024 ms, false), (!!ilt 1024 ms, false), (!!ilt 65535 wn, false), (!!ilt 65535 wn, false), (ieq ms 0, false), (!ilt ms 28, true), (ieq ms 0, false), (!ilt ms 28, true), (!ilt ms 28, true), (!ilt ms 28, true), (ieq ms 0, false), (ieq ms 0, false), (ieq ms 0, false), (ieq ms 0, false), (!!ilt 65535 wn, false), (!!ilt 65535 wn, false), (!ilt wn 0, true), (!ilt wn 0, true), (!ilt wn 0, true), (!ilt wn 0, true), (!ilt 4294967295 ak, true), (!ilt 4294967295 ak, true), (!ilt 4294967295 ak, true), (!ilt 4294967295 ak, true), (!ilt 4294967295 ak, true), (!ilt 4294967295 sq, true), (!ilt ak 0, true), (!ilt ak 0, true), (!ilt ak 0, true), (!ilt 4294967295 sq, true), (!ilt 4294967295 sq, true), (!ilt 4294967295 sq, true), (!ilt 65535 tp, true), (!ilt sq 0, true), (!ilt sq 0, true), (!ilt sq 0, true), (!ilt 65535 tp, true), (!ilt 65535 tp, true), (!ilt 65535 tp, true), (!ilt 65535 fp, true), (!ilt tp 1, true), (!ilt tp 1, true), (!ilt tp 1, true), (!ilt 65535 fp, true), (!ilt 65535 fp, true), (!ilt 65535 fp, true), (!ilt fp 1, true), (!ilt fp 1, true), (!ilt fp 1, true)], [.bool true (leqB (bL d) [])]) := by kernel_rfl
theorem vl_00000 (fp tp sq ak wn ms : Int) (d : ByteArray) : runD Tryz.prog kofS tb0 100 31 [.agg (Sg.vf ⟨fp, tp, sq, ak, false, false, false, false, wn, ms, false, d⟩)] [true, true, true, true, true, true, true, true, true, true, true, true, true, true, true, true, true, true, true, true, true, true, true, true, true, true, true, true, true, true, true, true, true, true, true, true, true, false, false, true, true, true, true, false, false] = some ([(!!ilt 65535 wn, false), (!!ilt 65535 wn, false), (ieq ms 0, true), (ieq ms 0, true), (ieq ms 0, true), (ieq ms 0, true), (!!ilt 65535 wn, false), (!!ilt 65535 wn, false), (!ilt wn 0, true), (!ilt wn 0, true), (!ilt wn 0, true), (!ilt wn 0, true), (ieq ak 0, true), (ieq ak 0, true), (ieq ak 0, true), (ieq ak 0, true), (!ilt 4294967295 ak, true), (!ilt 4294967295 ak, true), (!ilt 4294967295 ak, true), (!ilt 4294967295 ak, true), (!ilt 4294967295 ak, true), (!ilt 4294967295 sq, true), (!ilt ak 0, true), (!ilt ak 0, true), (!ilt ak 0, true), (!ilt 4294967295 sq, true), (!ilt 4294967295 sq, true), (!ilt 4294967295 sq, true), (!ilt 65535 tp, true), (!ilt sq 0, true), (!ilt sq 0, true), (!ilt sq 0, true), (!ilt 65535 tp, true), (!ilt 65535 tp, true), (!ilt 65535 tp, true), (!ilt 65535 fp, true), (!ilt tp 1, true), (!ilt tp 1, true), (!ilt tp 1, true), (!ilt 65535 fp, true), (!ilt 65535 fp, true), (!ilt 65535 fp, true), (!ilt fp 1, true), (!ilt fp 1, true), (!ilt fp 1, true)], [.bool true (!ilt 1024 (Int.ofNat (rlen (bL d))))]) := by kernel_rfl
theorem vl_00010 (fp tp sq ak wn ms : Int) (d : ByteArray) : runD Tryz.prog kofS tb0 100 31 [.agg (Sg.vf ⟨fp, tp, sq, ak, false, false, false, true, wn, ms, false, d⟩)] [true, true, true, true, true, true, true, true, true, true, true, true, true, true, true, true, true, true, true, true, true, true, true, true, true, true, true, true, true, true, true, true, true, false, false, true, true, true, true, false, false] = some ([(!!ilt 65535 wn, false), (!!ilt 65535 wn, false), (ieq ms 0, true), (ieq ms 0, true), (ieq ms 0, true), (ieq ms 0, true), (!!ilt 65535 wn, false), (!!ilt 65535 wn, false), (!ilt wn 0, true), (!ilt wn 0, true), (!ilt wn 0, true), (!ilt wn 0, true), (!ilt 4294967295 ak, true), (!ilt 4294967295 ak, true), (!ilt 4294967295 ak, true), (!ilt 4294967295 ak, true), (!ilt 4294967295 ak, true), (!ilt 4294967295 sq, true), (!ilt ak 0, true), (!ilt ak 0, true), (!ilt ak 0, true), (!ilt 4294967295 sq, true), (!ilt 4294967295 sq, true), (!ilt 4294967295 sq, true), (!ilt 65535 tp, true), (!ilt sq 0, true), (!ilt sq 0, true), (!ilt sq 0, true), (!ilt 65535 tp, true), (!ilt 65535 tp, true), (!ilt 65535 tp, true), (!ilt 65535 fp, true), (!ilt tp 1, true), (!ilt tp 1, true), (!ilt tp 1, true), (!ilt 65535 fp, true), (!ilt 65535 fp, true), (!ilt 65535 fp, true), (!ilt fp 1, true), (!ilt fp 1, true), (!ilt fp 1, true)], [.bool true (!ilt 1024 (Int.ofNat (rlen (bL d))))]) := by kernel_rfl
theorem vl_01000 (fp tp sq ak wn ms : Int) (d : ByteArray) : runD Tryz.prog kofS tb0 100 31 [.agg (Sg.vf ⟨fp, tp, sq, ak, false, true, false, false, wn, ms, false, d⟩)] [true, true, true, true, true, true, true, true, true, true, true, true, true, true, true, true, true, true, true, true, true, true, true, true, true, true, true, true, true, true, true, true, true, true, true, true, true, false, false, true, true, true, true, false, false] = some ([(!!ilt 65535 wn, false), (!!ilt 65535 wn, false), (ieq ms 0, true), (ieq ms 0, true), (ieq ms 0, true), (ieq ms 0, true), (!!ilt 65535 wn, false), (!!ilt 65535 wn, false), (!ilt wn 0, true), (!ilt wn 0, true), (!ilt wn 0, true), (!ilt wn 0, true), (ieq ak 0, true), (ieq ak 0, true), (ieq ak 0, true), (ieq ak 0, true), (!ilt 4294967295 ak, true), (!ilt 4294967295 ak, true), (!ilt 4294967295 ak, true), (!ilt 4294967295 ak, true), (!ilt 4294967295 ak, true), (!ilt 4294967295 sq, true), (!ilt ak 0, true), (!ilt ak 0, true), (!ilt ak 0, true), (!ilt 4294967295 sq, true), (!ilt 4294967295 sq, true), (!ilt 4294967295 sq, true), (!ilt 65535 tp, true), (!ilt sq 0, true), (!ilt sq 0, true), (!ilt sq 0, true), (!ilt 65535 tp, true), (!ilt 65535 tp, true), (!ilt 65535 tp, true), (!ilt 65535 fp, true), (!ilt tp 1, true), (!ilt tp 1, true), (!ilt tp 1, true), (!ilt 65535 fp, true), (!ilt 65535 fp, true), (!ilt 65535 fp, true), (!ilt fp 1, true), (!ilt fp 1, true), (!ilt fp 1, true)], [.bool true (!ilt 1024 (Int.ofNat (rlen (bL d))))]) := by kernel_rfl
theorem vl_01010 (fp tp sq ak wn ms : Int) (d : ByteArray) : runD Tryz.prog kofS tb0 100 31 [.agg (Sg.vf ⟨fp, tp, sq, ak, false, true, false, true, wn, ms, false, d⟩)] [true, true, true, true, true, true, true, true, true, true, true, true, true, true, true, true, true, true, true, true, true, true, true, true, true, true, true, true, true, true, true, true, true, false, false, true, true, true, true, false, false] = some ([(!!ilt 65535 wn, false), (!!ilt 65535 wn, false), (ieq ms 0, true), (ieq ms 0, true), (ieq ms 0, true), (ieq ms 0, true), (!!ilt 65535 wn, false), (!!ilt 65535 wn, false), (!ilt wn 0, true), (!ilt wn 0, true), (!ilt wn 0, true), (!ilt wn 0, true), (!ilt 4294967295 ak, true), (!ilt 4294967295 ak, true), (!ilt 4294967295 ak, true), (!ilt 4294967295 ak, true), (!ilt 4294967295 ak, true), (!ilt 4294967295 sq, true), (!ilt ak 0, true), (!ilt ak 0, true), (!ilt ak 0, true), (!ilt 4294967295 sq, true), (!ilt 4294967295 sq, true), (!ilt 4294967295 sq, true), (!ilt 65535 tp, true), (!ilt sq 0, true), (!ilt sq 0, true), (!ilt sq 0, true), (!ilt 65535 tp, true), (!ilt 65535 tp, true), (!ilt 65535 tp, true), (!ilt 65535 fp, true), (!ilt tp 1, true), (!ilt tp 1, true), (!ilt tp 1, true), (!ilt 65535 fp, true), (!ilt 65535 fp, true), (!ilt 65535 fp, true), (!ilt fp 1, true), (!ilt fp 1, true), (!ilt fp 1, true)], [.bool true (!ilt 1024 (Int.ofNat (rlen (bL d))))]) := by kernel_rfl
theorem vl_00100 (fp tp sq ak wn ms : Int) (d : ByteArray) : runD Tryz.prog kofS tb0 100 31 [.agg (Sg.vf ⟨fp, tp, sq, ak, false, false, true, false, wn, ms, false, d⟩)] [true, true, true, true, true, true, true, true, true, true, true, true, true, true, true, true, true, true, true, true, true, true, true, true, true, true, true, true, true, true, true, true, true, true, true, true, true, false, false, true, true, true, true, false, false] = some ([(!!ilt 65535 wn, false), (!!ilt 65535 wn, false), (ieq ms 0, true), (ieq ms 0, true), (ieq ms 0, true), (ieq ms 0, true), (!!ilt 65535 wn, false), (!!ilt 65535 wn, false), (!ilt wn 0, true), (!ilt wn 0, true), (!ilt wn 0, true), (!ilt wn 0, true), (ieq ak 0, true), (ieq ak 0, true), (ieq ak 0, true), (ieq ak 0, true), (!ilt 4294967295 ak, true), (!ilt 4294967295 ak, true), (!ilt 4294967295 ak, true), (!ilt 4294967295 ak, true), (!ilt 4294967295 ak, true), (!ilt 4294967295 sq, true), (!ilt ak 0, true), (!ilt ak 0, true), (!ilt ak 0, true), (!ilt 4294967295 sq, true), (!ilt 4294967295 sq, true), (!ilt 4294967295 sq, true), (!ilt 65535 tp, true), (!ilt sq 0, true), (!ilt sq 0, true), (!ilt sq 0, true), (!ilt 65535 tp, true), (!ilt 65535 tp, true), (!ilt 65535 tp, true), (!ilt 65535 fp, true), (!ilt tp 1, true), (!ilt tp 1, true), (!ilt tp 1, true), (!ilt 65535 fp, true), (!ilt 65535 fp, true), (!ilt 65535 fp, true), (!ilt fp 1, true), (!ilt fp 1, true), (!ilt fp 1, true)], [.bool true (leqB (bL d) [])]) := by kernel_rfl
theorem vl_00110 (fp tp sq ak wn ms : Int) (d : ByteArray) : runD Tryz.prog kofS tb0 100 31 [.agg (Sg.vf ⟨fp, tp, sq, ak, false, false, true, true, wn, ms, false, d⟩)] [true, true, true, true, true, true, true, true, true, true, true, true, true, true, true, true, true, true, true, true, true, true, true, true, true, true, true, true, true, true, true, true, true, false, false, true, true, true, true, false, false] = some ([(!!ilt 65535 wn, false), (!!ilt 65535 wn, false), (ieq ms 0, true), (ieq ms 0, true), (ieq ms 0, true), (ieq ms 0, true), (!!ilt 65535 wn, false), (!!ilt 65535 wn, false), (!ilt wn 0, true), (!ilt wn 0, true), (!ilt wn 0, true), (!ilt wn 0, true), (!ilt 4294967295 ak, true), (!ilt 4294967295 ak, true), (!ilt 4294967295 ak, true), (!ilt 4294967295 ak, true), (!ilt 4294967295 ak, true), (!ilt 4294967295 sq, true), (!ilt ak 0, true), (!ilt ak 0, true), (!ilt ak 0, true), (!ilt 4294967295 sq, true), (!ilt 4294967295 sq, true), (!ilt 4294967295 sq, true), (!ilt 65535 tp, true), (!ilt sq 0, true), (!ilt sq 0, true), (!ilt sq 0, true), (!ilt 65535 tp, true), (!ilt 65535 tp, true), (!ilt 65535 tp, true), (!ilt 65535 fp, true), (!ilt tp 1, true), (!ilt tp 1, true), (!ilt tp 1, true), (!ilt 65535 fp, true), (!ilt 65535 fp, true), (!ilt 65535 fp, true), (!ilt fp 1, true), (!ilt fp 1, true), (!ilt fp 1, true)], [.bool true (leqB (bL d) [])]) := by kernel_rfl
theorem not_ilt {a b : Int} (h : b ≤ a) : (!ilt a b) = true := by simp only [ilt_dec]; simp; omega
theorem nnot_ilt {a b : Int} (h : b ≤ a) : (!!ilt a b) = false := by simp only [ilt_dec]; simp; omega
theorem ieq_t {a b : Int} (h : a = b) : ieq a b = true := by rw [ieq_dec]; exact decide_eq_true h
theorem ieq_f {a b : Int} (h : ¬ a = b) : ieq a b = false := by rw [ieq_dec]; exact decide_eq_false h
theorem ilt_f {a b : Int} (h : b ≤ a) : ilt a b = false := by rw [ilt_dec]; exact decide_eq_false (by omega)
theorem nieq_f {a b : Int} (h : a = b) : (!ieq a b) = false := by rw [ieq_t h]; rfl
theorem nieq_t {a b : Int} (h : ¬ a = b) : (!ieq a b) = true := by rw [ieq_f h]; rfl
theorem inR_t {n : Int} (h1 : -9223372036854775808 ≤ n) (h2 : n ≤ 9223372036854775807) : inR n = true := inR_iff.2 ⟨h1, h2⟩
theorem vl_end {f : FuncId} {args : Array Value} {c : Bool} {w : World} (hc : c = true) (h : Calls Tryz.prog f args w fun e w' => e = .returned ((V.bool true c).den ρ0) ∧ Below w.heap.size w w') : Calls Tryz.prog f args w fun e w' => e = .returned (.bool true) ∧ Below w.heap.size w w' := by
  subst hc; exact h
theorem leq_nil {l : List UInt8} (h : l.length = 0) : leqB l [] = true := by rw [List.eq_nil_of_length_eq_zero h]; rfl
theorem vl_hit (s : Sg) (w : World) (h : s.ok) : Calls Tryz.prog 31 #[.agg s.cells.toArray] w fun e w' => e = .returned (.bool true) ∧ Below w.heap.size w w' := by
  obtain ⟨fp, tp, sq, ak, sy, fi, rs, ha, wn, ms, sa, d⟩ := s
  obtain ⟨⟨a1, a2⟩, ⟨a3, a4⟩, ⟨a5, a6⟩, ⟨a7, a8⟩, a9, ⟨a10, a11⟩, a12, a13, a14, a15⟩ := h
  simp only at a1 a2 a3 a4 a5 a6 a7 a8 a9 a10 a11 a12 a13 a14 a15
  cases sy with
  | true =>
    obtain ⟨rfl, rfl, b1, b2, b3⟩ := a12 rfl
    have hb := leq_nil b3
    have hms : ¬ ms = 0 := by omega
    cases ha with
    | true => cases sa with
      | true => exact vl_end hb (vm_data (ar := arW) entr noT_ok rfl rfl (vl_10011 fp tp sq ak wn ms d) (by
          repeat' first | exact okO_nil | refine okO_cons ?_ ?_
          all_goals first | exact not_ilt (by omega) | exact nnot_ilt (by omega) | exact ieq_t (by omega) | exact ieq_f (by omega) | exact nieq_f (by omega) | exact nieq_t (by omega)) w)
      | false => exact vl_end hb (vm_data (ar := arW) entr noT_ok rfl rfl (vl_10010 fp tp sq ak wn ms d) (by
          repeat' first | exact okO_nil | refine okO_cons ?_ ?_
          all_goals first | exact not_ilt (by omega) | exact nnot_ilt (by omega) | exact ieq_t (by omega) | exact ieq_f (by omega) | exact nieq_f (by omega) | exact nieq_t (by omega)) w)
    | false =>
      have := a9 rfl
      cases sa with
      | true => exact vl_end hb (vm_data (ar := arW) entr noT_ok rfl rfl (vl_10001 fp tp sq ak wn ms d) (by
          repeat' first | exact okO_nil | refine okO_cons ?_ ?_
          all_goals first | exact not_ilt (by omega) | exact nnot_ilt (by omega) | exact ieq_t (by omega) | exact ieq_f (by omega) | exact nieq_f (by omega) | exact nieq_t (by omega)) w)
      | false => exact vl_end hb (vm_data (ar := arW) entr noT_ok rfl rfl (vl_10000 fp tp sq ak wn ms d) (by
          repeat' first | exact okO_nil | refine okO_cons ?_ ?_
          all_goals first | exact not_ilt (by omega) | exact nnot_ilt (by omega) | exact ieq_t (by omega) | exact ieq_f (by omega) | exact nieq_f (by omega) | exact nieq_t (by omega)) w)
  | false =>
    obtain ⟨b1, rfl, b2⟩ := a13 rfl
    have hb : (!ilt 1024 (Int.ofNat (rlen (bL d)))) = true := not_ilt (by rw [rlen_eq]; exact Int.ofNat_le.2 a15)
    cases rs with
    | true =>
      have hb := leq_nil (a14 rfl)
      cases fi with
      | true => cases b1
      | false => cases ha with
        | true => exact vl_end hb (vm_data (ar := arW) entr noT_ok rfl rfl (vl_00110 fp tp sq ak wn ms d) (by
          repeat' first | exact okO_nil | refine okO_cons ?_ ?_
          all_goals first | exact not_ilt (by omega) | exact nnot_ilt (by omega) | exact ieq_t (by omega) | exact ieq_f (by omega) | exact nieq_f (by omega) | exact nieq_t (by omega)) w)
        | false =>
          have := a9 rfl
          exact vl_end hb (vm_data (ar := arW) entr noT_ok rfl rfl (vl_00100 fp tp sq ak wn ms d) (by
          repeat' first | exact okO_nil | refine okO_cons ?_ ?_
          all_goals first | exact not_ilt (by omega) | exact nnot_ilt (by omega) | exact ieq_t (by omega) | exact ieq_f (by omega) | exact nieq_f (by omega) | exact nieq_t (by omega)) w)
    | false => cases fi with
      | true => cases ha with
        | true => exact vl_end hb (vm_data (ar := arW) entr noT_ok rfl rfl (vl_01010 fp tp sq ak wn ms d) (by
          repeat' first | exact okO_nil | refine okO_cons ?_ ?_
          all_goals first | exact not_ilt (by omega) | exact nnot_ilt (by omega) | exact ieq_t (by omega) | exact ieq_f (by omega) | exact nieq_f (by omega) | exact nieq_t (by omega)) w)
        | false =>
          have := a9 rfl
          exact vl_end hb (vm_data (ar := arW) entr noT_ok rfl rfl (vl_01000 fp tp sq ak wn ms d) (by
          repeat' first | exact okO_nil | refine okO_cons ?_ ?_
          all_goals first | exact not_ilt (by omega) | exact nnot_ilt (by omega) | exact ieq_t (by omega) | exact ieq_f (by omega) | exact nieq_f (by omega) | exact nieq_t (by omega)) w)
      | false => cases ha with
        | true => exact vl_end hb (vm_data (ar := arW) entr noT_ok rfl rfl (vl_00010 fp tp sq ak wn ms d) (by
          repeat' first | exact okO_nil | refine okO_cons ?_ ?_
          all_goals first | exact not_ilt (by omega) | exact nnot_ilt (by omega) | exact ieq_t (by omega) | exact ieq_f (by omega) | exact nieq_f (by omega) | exact nieq_t (by omega)) w)
        | false =>
          have := a9 rfl
          exact vl_end hb (vm_data (ar := arW) entr noT_ok rfl rfl (vl_00000 fp tp sq ak wn ms d) (by
          repeat' first | exact okO_nil | refine okO_cons ?_ ?_
          all_goals first | exact not_ilt (by omega) | exact nnot_ilt (by omega) | exact ieq_t (by omega) | exact ieq_f (by omega) | exact nieq_f (by omega) | exact nieq_t (by omega)) w)
end Go.Proofs.YthdnonoheochhaaGreatDoor
namespace Go.Proofs.YthdnonoheochhaaGreatDoor
open Go Go.RowKit
set_option linter.unusedVariables false
set_option maxRecDepth 100000
def tb2 : FuncId → Option (List V → T Nat) := addT tb1 68 (pureC fbG)
theorem tb2_ok : TblOK arW Tryz.prog tb2 := addT_ok tb1_ok (pureC_ok (fbG_hit fb_hit))
theorem wr_run (fp tp sq ak wn ms n : Int) (sy fi rs ha sa : Bool) (d : ByteArray) : runD Tryz.prog kofS tb2 100 32 [.agg (Sg.vs ⟨fp, tp, sq, ak, sy, fi, rs, ha, wn, ms, sa, d⟩), .int true .i64 n] [] =
  some ([(Nat.blt 0 ([] ++ putL 2 [fp, tp] ++ putL 4 [sq, ak] ++ putL 1 [fB sy fi rs ha sa, Int.ofNat 0] ++ putL 2 [wn, ms, n] ++ bL d).length && ([] ++ putL 2 [fp, tp] ++ putL 4 [sq, ak] ++ putL 1 [fB sy fi rs ha sa, Int.ofNat 0] ++ putL 2 [wn, ms, n] ++ bL d).length.ble 100000, true), ((([] ++ putL 2 [fp, tp] ++ putL 4 [sq, ak] ++ putL 1 [fB sy fi rs ha sa, Int.ofNat 0] ++ putL 2 [wn, ms, n]).length + (bL d).length).ble 100000, true), ((([] ++ putL 2 [fp, tp] ++ putL 4 [sq, ak] ++ putL 1 [fB sy fi rs ha sa, Int.ofNat 0]).length + (putL 2 [wn, ms, n]).length).ble 100000, true), (rgB 2 n, true), (rgB 2 ms, true), (rgB 2 wn, true), ((([] ++ putL 2 [fp, tp] ++ putL 4 [sq, ak]).length + (putL 1 [fB sy fi rs ha sa, Int.ofNat 0]).length).ble 100000, true), (rgB 1 (Int.ofNat 0), true), (rgB 1 (fB sy fi rs ha sa), true), (true, true), ((([] ++ putL 2 [fp, tp]).length + (putL 4 [sq, ak]).length).ble 100000, true), (rgB 4 ak, true), (rgB 4 sq, true), ((([] : List UInt8).length + (putL 2 [fp, tp]).length).ble 100000, true), (rgB 2 tp, true), (rgB 2 fp, true)], [.str true (mkB (segL ⟨fp, tp, sq, ak, sy, fi, rs, ha, wn, ms, sa, d⟩ n))]) := by kernel_rfl
theorem ble_t {a b : Nat} (h : a ≤ b) : Nat.ble a b = true := Nat.ble_eq_true_of_le h
theorem rgB_t {K : Nat} {n : Int} (h0 : 0 ≤ n) (h1 : n.toNat < 256 ^ K) : rgB K n = true := by
  obtain ⟨m, rfl⟩ := Int.eq_ofNat_of_zero_le h0
  show Nat.blt m (256 ^ K) = true
  rw [blt_dec]
  exact decide_eq_true h1
theorem fB_rg (sy fi rs ha sa : Bool) : 0 ≤ fB sy fi rs ha sa ∧ (fB sy fi rs ha sa).toNat < 256 := by
  cases sy <;> cases fi <;> cases rs <;> cases ha <;> cases sa <;> decide
theorem wr_hit (s : Sg) (n : Int) (w : World) (h : s.ok) (n0 : 0 ≤ n) (n1 : n ≤ 65535) : Calls Tryz.prog 32 #[.agg s.cells.toArray, .int .i64 n] w fun e w' => e = .returned (.string (mkB (segL s n))) ∧ Below w.heap.size w w' := by
  obtain ⟨fp, tp, sq, ak, sy, fi, rs, ha, wn, ms, sa, d⟩ := s
  obtain ⟨⟨a1, a2⟩, ⟨a3, a4⟩, ⟨a5, a6⟩, ⟨a7, a8⟩, a9, ⟨a10, a11⟩, a12, a13, a14, a15⟩ := h
  simp only at a1 a2 a3 a4 a5 a6 a7 a8 a9 a10 a11 a12 a13 a14 a15
  have hms : 0 ≤ ms ∧ ms ≤ 1024 := by
    cases sy with
    | true => obtain ⟨_, _, b1, b2, _⟩ := a12 rfl; omega
    | false => obtain ⟨_, _, b2⟩ := a13 rfl; omega
  have hfb := fB_rg sy fi rs ha sa
  refine vm_data (ar := arW) (args := [.agg (Sg.vs ⟨fp, tp, sq, ak, sy, fi, rs, ha, wn, ms, sa, d⟩), .int true .i64 n]) entr tb2_ok rfl rfl (wr_run fp tp sq ak wn ms n sy fi rs ha sa d) ?_ w
  repeat' first | exact okO_nil | refine okO_cons ?_ ?_
  all_goals first | rfl | exact rgB_t hfb.1 hfb.2 | exact rgB_t (by omega) (by show _ < 65536; omega) | exact rgB_t (by omega) (by show _ < 4294967296; omega) | (simp only [List.length_append, putL_len, List.length_cons, List.length_nil, Bool.and_eq_true]; first | exact ble_t (by omega) | exact ⟨by rw [blt_dec]; exact decide_eq_true (by omega), ble_t (by omega)⟩)
end Go.Proofs.YthdnonoheochhaaGreatDoor
namespace Go.Proofs.YthdnonoheochhaaGreatDoor
open Go Go.RowKit
set_option linter.unusedVariables false
set_option maxRecDepth 100000
theorem ck_hit (s : ByteArray) (h : s.size ≤ 100000) (w : World) : Calls Tryz.prog 33 #[.string s] w fun e w' => e = .returned (.int .i64 (ckF s)) ∧ Below w.heap.size w w' := cksum_r s h w
def tb3 : FuncId → Option (List V → T Nat) := addT (addT (addT (addT noT 34 (sgPutC 3)) 33 csC) 31 (pureC vlG)) 32 (pureC wrG)
theorem tb3_ok : TblOK arW Tryz.prog tb3 := addT_ok (addT_ok (addT_ok (addT_ok noT_ok (sgPutC_ok put_hit)) (csC_ok ck_hit)) (pureC_ok (vlG_hit fun s w h => vl_hit s w h))) (pureC_ok (wrG_hit fun s n w h h0 h1 => wr_hit s n w h h0 h1))
theorem en_run (fr to : Int) (s : Sg) : runD Tryz.prog kofS tb3 100 10 [.int true .i64 fr, .int true .i64 to, .agg s.vs] [true, true, true, false, false, true, true, true, false, false, false] =
  some ([(s.okB && rgI 0 65535 (ckF (mkB (coverL fr to s))), true), (Nat.ble (coverL fr to s).length 100000, true), (Nat.ble ((putL 4 [fr, to] ++ putL 2 [6, Int.ofNat (rlen (segL s 0))]).length + (segL s 0).length) 9223372036854775807, true),
    (Nat.ble ((putL 4 [fr, to]).length + (putL 2 [6, Int.ofNat (rlen (segL s 0))]).length) 9223372036854775807, true), (rgB 2 (Int.ofNat (rlen (segL s 0))), true), (rgB 2 6, true), (rgB 4 to, true), (rgB 4 fr, true), (s.okB && rgI 0 65535 0, true), (s.okB, true),
    (!!ilt 4294967295 to, false), (!!ilt 4294967295 fr, false), (!!ilt 4294967295 fr, false), (!ilt to 0, true), (!ilt to 0, true), (!ilt to 0, true), (!!ilt 4294967295 fr, false), (!!ilt 4294967295 fr, false), (!ilt fr 0, true), (!ilt fr 0, true), (!ilt fr 0, true)],
   [.tup [.str true (encS fr to s), .int false .i64 0]]) := by kernel_rfl
theorem segL_len (s : Sg) (n : Int) : (segL s n).length = 20 + (bL s.d).length := by
  unfold segL
  simp only [List.length_append, putL_len, List.length_cons, List.length_nil]
theorem en_hit (fr to : Int) (s : Sg) (w : World) (h : s.ok) (f0 : 0 ≤ fr) (f1 : fr ≤ 4294967295) (t0 : 0 ≤ to) (t1 : to ≤ 4294967295) : Calls Tryz.prog 10 #[.int .i64 fr, .int .i64 to, .agg s.cells.toArray] w fun e w' => e = .returned (.tuple #[.string (encS fr to s), .int .i64 0]) ∧ Below w.heap.size w w' := by
  have hd := h.d
  have hl := segL_len s 0
  have hb := Sg.ok_iff.2 h
  refine vm_data (ar := arW) (args := [.int true .i64 fr, .int true .i64 to, .agg s.vs]) entr tb3_ok rfl rfl (en_run fr to s) ?_ w
  have hr := ckF_range (mkB (coverL fr to s))
  have c1 : (coverL fr to s).length = 32 + (bL s.d).length := by
    unfold coverL
    simp only [List.length_append, putL_len, List.length_cons, List.length_nil, hl]
    omega
  refine okO_cons ?_ (okO_cons ?_ (okO_cons ?_ (okO_cons ?_ (okO_cons ?_ (okO_cons rfl (okO_cons ?_ (okO_cons ?_ (okO_cons ?_ (okO_cons hb ?_)))))))))
  · rw [hb, rgI_iff.2 hr]; rfl
  · exact ble_t (by omega)
  · exact ble_t (by simp only [List.length_append, putL_len, List.length_cons, List.length_nil]; omega)
  · exact ble_t (by simp only [putL_len, List.length_cons, List.length_nil]; omega)
  · exact rgB_t (Int.natCast_nonneg _) (by rw [rlen_eq]; show (segL s 0).length < 65536; omega)
  · exact rgB_t t0 (by show _ < 4294967296; omega)
  · exact rgB_t f0 (by show _ < 4294967296; omega)
  · rw [hb]; rfl
  repeat' first | exact okO_nil | refine okO_cons ?_ ?_
  all_goals first | exact not_ilt (by omega) | exact nnot_ilt (by omega)
end Go.Proofs.YthdnonoheochhaaGreatDoor
namespace Go.Proofs.YthdnonoheochhaaGreatDoor
open Go Go.RowKit Go.Sort
set_option linter.unusedVariables false
set_option maxRecDepth 100000
noncomputable def tb4 : FuncId → Option (List V → T Nat) := addT (addT noT 73 gtC) 10 (pureC enG)
theorem tb4_ok : TblOK arW Tryz.prog tb4 := addT_ok (addT_ok noT_ok (gtC_ok gt_hit)) (pureC_ok (enG_hit fun fr to s w h a b c d => en_hit fr to s w h a b c d))
def gB (x : ByteArray) (k p : Nat) : Int := beD (List.take k (List.drop p (bL x)))
def btB (x : ByteArray) (m : Int) : Bool := !ieq (bits .and .i64 (gB x 1 12) m) 0
def sgD (x : ByteArray) : Sg := ⟨gB x 2 0, gB x 2 2, gB x 4 4, gB x 4 8, btB x 1, btB x 2, btB x 4, btB x 8, gB x 2 14, gB x 2 16, btB x 16, mkB (List.take ((bL x).length - 20) (List.drop 20 (bL x)))⟩
theorem de_run (fr to : Int) (x : ByteArray) : runD Tryz.prog kofS tb4 100 11 [.int true .i64 fr, .int true .i64 to, .str true x] [true, true, true, false, false, true, true, true, false, false, false, false, false, false, false, false, false, false, false, false, false, false, false, false] =
  some ([(!leqB (bL (encS fr to (sgD x))) (bL x), false), ((sgD x).okB && (rgI 0 4294967295 fr && rgI 0 4294967295 to), true), (bnds 20 (Int.ofNat (bL x).length) (bL x).length, true), (ilt 0 (gB x 1 13), false),
    (ilt (Int.ofNat (rlen (bL x))) (Int.add 20 (Int.mul 8 (gB x 1 13))), false), (ilt 3 (gB x 1 13), false), (ilt 3 (gB x 1 13), false), (inR (Int.add 20 (Int.mul 8 (gB x 1 13))), true), (ilt 3 (gB x 1 13), false), (inR (Int.mul 8 (gB x 1 13)), true),
    (ilt 3 (gB x 1 13), false), (ilt 3 (gB x 1 13), false), (ilt 3 (gB x 1 13), false), (ilt 3 (gB x 1 13), false), (ilt 3 (gB x 1 13), false),
    (Nat.ble 20 (bL x).length && Nat.ble (bL x).length 100000, true), (Nat.ble 18 (bL x).length && Nat.ble (bL x).length 100000, true), (Nat.ble 16 (bL x).length && Nat.ble (bL x).length 100000, true), (Nat.ble 14 (bL x).length && Nat.ble (bL x).length 100000, true),
    (Nat.ble 13 (bL x).length && Nat.ble (bL x).length 100000, true), (Nat.ble 12 (bL x).length && Nat.ble (bL x).length 100000, true), (Nat.ble 8 (bL x).length && Nat.ble (bL x).length 100000, true), (Nat.ble 4 (bL x).length && Nat.ble (bL x).length 100000, true),
    (Nat.ble 2 (bL x).length && Nat.ble (bL x).length 100000, true), (ilt (Int.ofNat (rlen (bL x))) 20, false),
    (!!ilt 4294967295 to, false), (!!ilt 4294967295 fr, false), (!!ilt 4294967295 fr, false), (!ilt to 0, true), (!ilt to 0, true), (!ilt to 0, true), (!!ilt 4294967295 fr, false), (!!ilt 4294967295 fr, false), (!ilt fr 0, true), (!ilt fr 0, true), (!ilt fr 0, true)],
   [.tup [.agg (sgD x).vs, .int false .i64 0]]) := by kernel_rfl
theorem beD1 (n : Int) (h0 : 0 ≤ n) (h1 : n < 256) : beD [by8 n 0] = n := by
  simp only [beD, List.foldl_cons, List.foldl_nil, by8_val]; simp; omega
theorem beD2 (n : Int) (h0 : 0 ≤ n) (h1 : n ≤ 65535) : beD [by8 n 1, by8 n 0] = n := by
  simp only [beD, List.foldl_cons, List.foldl_nil, by8_val]; simp; omega
theorem beD4 (n : Int) (h0 : 0 ≤ n) (h1 : n ≤ 4294967295) : beD [by8 n 3, by8 n 2, by8 n 1, by8 n 0] = n := by
  simp only [beD, List.foldl_cons, List.foldl_nil, by8_val]; simp; omega
theorem mkB_bL (d : ByteArray) : mkB (bL d) = d := rfl
theorem gB_eq {x : ByteArray} {k p : Nat} {l : List UInt8} {n : Int} (h : List.take k (List.drop p (bL x)) = l) (hl : beD l = n) : gB x k p = n := by
  unfold gB; rw [h, hl]
theorem fB_bits (sy fi rs ha sa : Bool) : (!ieq (bits .and .i64 (fB sy fi rs ha sa) 1) 0) = sy ∧ (!ieq (bits .and .i64 (fB sy fi rs ha sa) 2) 0) = fi ∧ (!ieq (bits .and .i64 (fB sy fi rs ha sa) 4) 0) = rs ∧ (!ieq (bits .and .i64 (fB sy fi rs ha sa) 8) 0) = ha ∧ (!ieq (bits .and .i64 (fB sy fi rs ha sa) 16) 0) = sa := by
  cases sy <;> cases fi <;> cases rs <;> cases ha <;> cases sa <;> decide
theorem sgD_seg {x : ByteArray} {s : Sg} {n : Int} (hx : bL x = segL s n) (h : s.ok) (hms : 0 ≤ s.ms ∧ s.ms ≤ 1024) : sgD x = s ∧ gB x 1 13 = 0 := by
  obtain ⟨fp, tp, sq, ak, sy, fi, rs, ha, wn, ms, sa, d⟩ := s
  obtain ⟨⟨a1, a2⟩, ⟨a3, a4⟩, ⟨a5, a6⟩, ⟨a7, a8⟩, a9, ⟨a10, a11⟩, a12, a13, a14, a15⟩ := h
  simp only at a1 a2 a3 a4 a5 a6 a7 a8 a9 a10 a11 a12 a13 a14 a15 hms
  have hfb := fB_rg sy fi rs ha sa
  have e1 : gB x 2 0 = fp := gB_eq (by rw [hx]; rfl) (beD2 fp (by omega) a2)
  have e2 : gB x 2 2 = tp := gB_eq (by rw [hx]; rfl) (beD2 tp (by omega) a4)
  have e3 : gB x 4 4 = sq := gB_eq (by rw [hx]; rfl) (beD4 sq a5 a6)
  have e4 : gB x 4 8 = ak := gB_eq (by rw [hx]; rfl) (beD4 ak a7 a8)
  have e5 : gB x 1 12 = fB sy fi rs ha sa := gB_eq (by rw [hx]; rfl) (beD1 _ hfb.1 (by omega))
  have e6 : gB x 1 13 = 0 := gB_eq (by rw [hx]; rfl) (beD1 0 (by omega) (by omega))
  have e7 : gB x 2 14 = wn := gB_eq (by rw [hx]; rfl) (beD2 wn a10 a11)
  have e8 : gB x 2 16 = ms := gB_eq (by rw [hx]; rfl) (beD2 ms hms.1 (by omega))
  obtain ⟨f1, f2, f3, f4, f5⟩ := fB_bits sy fi rs ha sa
  have e9 : mkB (List.take ((bL x).length - 20) (List.drop 20 (bL x))) = d := by
    have hl := segL_len ⟨fp, tp, sq, ak, sy, fi, rs, ha, wn, ms, sa, d⟩ n
    rw [hx, hl]
    have : List.drop 20 (segL ⟨fp, tp, sq, ak, sy, fi, rs, ha, wn, ms, sa, d⟩ n) = bL d := rfl
    rw [this]
    simp only [Nat.add_sub_cancel_left, List.take_length, mkB_bL]
  refine ⟨?_, e6⟩
  unfold sgD btB
  rw [e1, e2, e3, e4, e5, e7, e8, e9, f1, f2, f3, f4, f5]
theorem leqB_refl (l : List UInt8) : leqB l l = true := by rw [leqB_dec]; exact beq_self_eq_true l
theorem de_hit (fr to : Int) (s : Sg) (w : World) (h : s.ok) (f0 : 0 ≤ fr) (f1 : fr ≤ 4294967295) (t0 : 0 ≤ to) (t1 : to ≤ 4294967295) : Calls Tryz.prog 11 #[.int .i64 fr, .int .i64 to, .string (encS fr to s)] w fun e w' => e = .returned (.tuple #[.agg s.cells.toArray, .int .i64 0]) ∧ Below w.heap.size w w' := by
  have hms : 0 ≤ s.ms ∧ s.ms ≤ 1024 := by
    cases hs : s.sy with
    | true => obtain ⟨_, _, b1, b2, _⟩ := h.sy hs; omega
    | false => obtain ⟨_, _, b2⟩ := h.ns hs; omega
  obtain ⟨x, hx⟩ : ∃ x, encS fr to s = x := ⟨_, rfl⟩
  have hb : bL x = segL s (ckF (mkB (coverL fr to s))) := by rw [← hx]; rfl
  obtain ⟨g1, g2⟩ := sgD_seg hb h hms
  have hd := h.d
  have hl : (bL x).length = 20 + (bL s.d).length := by rw [hb, segL_len]
  have hr : rlen (bL x) = 20 + (bL s.d).length := by rw [rlen_eq, hl]
  have hrun := de_run fr to x
  rw [g1, g2, hr] at hrun
  have hc := vm_data (ar := arW) (args := [.int true .i64 fr, .int true .i64 to, .str true x]) entr tb4_ok rfl rfl hrun ?_ w
  · rw [hx]; exact hc
  have hok := Sg.ok_iff.2 h
  refine okO_cons ?_ (okO_cons ?_ (okO_cons ?_ ?_))
  · rw [hx, leqB_refl]; rfl
  · rw [hok, rgI_iff.2 ⟨f0, f1⟩, rgI_iff.2 ⟨t0, t1⟩]; rfl
  · rw [hl]; simp only [bnds, Bool.and_eq_true, Nat.ble_eq]; omega
  repeat' first | exact okO_nil | refine okO_cons ?_ ?_
  all_goals first | rfl | exact not_ilt (by omega) | exact nnot_ilt (by omega) | exact ilt_f (by simp; omega) | (rw [hl]; simp only [Bool.and_eq_true, Nat.ble_eq]; omega)
end Go.Proofs.YthdnonoheochhaaGreatDoor
namespace Go.Proofs.YthdnonoheochhaaGreatDoor
open Go Go.RowKit
set_option linter.unusedVariables false
set_option maxRecDepth 100000
def onlyR (p : Prop) : Res where
  P _ F := (∀ b, ¬ F b) ∧ p
  bound h b hb := (h.1 b hb).elim
  move h _ _ := h
def segV (l : List Value) (v : Value) : Prop := ∃ fr to s, Sg.ok s ∧ (0 ≤ fr ∧ fr ≤ 4294967295) ∧ (0 ≤ to ∧ to ≤ 4294967295) ∧ l = .int .i64 fr :: .int .i64 to :: s.cells ∧ v = .string (encS fr to s)
def arS (a : Nat) (l : List Value) (v : Value) : Res := match a with
  | 0 => onlyR (segV l v)
  | 3 => onlyR (l = [v])
  | _ => noR
def sgDe1 (a b : Int) (p : Pl Nat) : T Nat := match p with
  | .abs 0 (.int _ .i64 a' :: .int _ .i64 b' :: l) => .need (ieq a a' && ieq b b') (.ret (rv (.tup [.agg l, .int false .i64 0])))
  | _ => .fail 9020
def sgDe (args : List V) : T Nat := match args with
  | [.int _ .i64 a, .int _ .i64 b, .ns n] => .get n (sgDe1 a b)
  | _ => .fail 9021
theorem need_ok {A : Type} {c : Bool} {k : T A} {ch : List Bool} {M : List (Pl A)} {obs : Obs} {lg : Lg} {r M' ch' obs' lg'} (h : (T.need c k).run ch M obs lg = .ok r M' ch' obs' lg') (ho : okObs obs') : c = true := run_obs k h ho (c, true) List.mem_cons_self
theorem sgDe_ok (args : List V) : CallOK arS Tryz.prog 11 args (sgDe args) := by
  intro ch M obs lg r M' ch' obs' lg' hr ho B ρ w0 D w K hB hA hM hs hK Q hQ
  unfold sgDe at hr
  split at hr
  case h_2 => cases hr
  rename_i s1 a s2 b n
  simp only [T.run] at hr
  unfold sgDe1 at hr
  split at hr
  case h_2 => cases hr
  rename_i p s3 a' s4 b' l hm
  have hc := need_ok hr ho
  simp only [T.run] at hr
  cases hr
  simp only [Bool.and_eq_true, ieq_dec, decide_eq_true_eq] at hc
  obtain ⟨rfl, rfl⟩ := hc
  obtain ⟨F, h1, _⟩ := hA.chg (At.lt' hm (by intro e; cases e))
  rw [hm] at h1
  obtain ⟨_, fr, to, s, hok, h2, h3, hl, hv⟩ := h1
  simp only [denL, V.den, List.cons.injEq, Value.int.injEq, true_and] at hl
  obtain ⟨rfl, rfl, hl⟩ := hl
  refine call_ret (v := .tup [.agg l, .int false .i64 0]) hA hM ⟨?_, trivial, trivial⟩ hK hQ (show Calls Tryz.prog 11 (denL ρ [.int s1 .i64 a, .int s2 .i64 b, .ns n]).toArray w _ from by
    simp only [denL, V.den, hl, hv, strOf]
    exact de_hit a b s w hok h2.1 h2.2 h3.1 h3.2)
  have := hM n
  rw [hm] at this
  exact this.2.2
end Go.Proofs.YthdnonoheochhaaGreatDoor
