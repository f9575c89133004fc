/- The data of package dnscache in memory: records, keys, entries, the cache. -/
import Derived.Laws.StructEq
import Derived.Test.YtbhglemolpfnkaaGreatDoorBb
import Derived.Test.YtbhglemolpfnkaaGreatDoorBc
set_option linter.unusedVariables false
set_option maxRecDepth 100000
set_option maxHeartbeats 32000000
namespace Go.Proofs.YtbhglemolpfnkaaGreatDoor
open Go.RowKit Go.Sort

structure Ky where
 nm : ByteArray
 kd : Int
 ad : Int
 to : ByteArray
structure En where
 nm : ByteArray
 kd : Int
 ad : Int
 to : ByteArray
 ex : Int
structure Rc where
 nm : ByteArray
 kd : Int
 tt : Int
 ad : Int
 to : ByteArray
abbrev kyA (k : Ky) : Array Value := #[.string k.nm, .int .i64 k.kd, .int .i64 k.ad, .string k.to]
abbrev kyV (k : Ky) : Value := .agg (kyA k)
abbrev enA (e : En) : Array Value := #[.string e.nm, .int .i64 e.kd, .int .i64 e.ad, .string e.to, .int .i64 e.ex]
abbrev enV (e : En) : Value := .agg (enA e)
def cEn (e : En) : List Value := (enA e).toList
abbrev rcA (r : Rc) : Array Value := #[.string r.nm, .int .i64 r.kd, .int .i64 r.tt, .int .i64 r.ad, .string r.to]
abbrev rcV (r : Rc) : Value := .agg (rcA r)
def cRc (r : Rc) : List Value := (rcA r).toList
def keyE (e : En) : Ky := ⟨e.nm, e.kd, e.ad, e.to⟩
def kyEq (a b : Ky) : Bool := (a.nm.toList == b.nm.toList) && ((a.kd == b.kd) && ((a.ad == b.ad) && (a.to.toList == b.to.toList)))
theorem bytes_ext {a b : ByteArray} (h : a.toList = b.toList) : a = b := by
 have ha : a.toList = a.data.toList := Go.ByteArray.toList_eq a
 have hb : b.toList = b.data.toList := Go.ByteArray.toList_eq b
 rw [ha, hb] at h
 obtain ⟨⟨x⟩⟩ := a
 obtain ⟨⟨y⟩⟩ := b
 simp at h
 rw [h]
theorem kyEq_iff (a b : Ky) : kyEq a b = true ↔ a = b := by
 obtain ⟨a0, a1, a2, a3⟩ := a
 obtain ⟨b0, b1, b2, b3⟩ := b
 simp only [kyEq, Bool.and_eq_true, beq_iff_eq, Ky.mk.injEq]
 exact ⟨fun ⟨h0, h1, h2, h3⟩ => ⟨bytes_ext h0, h1, h2, bytes_ext h3⟩, fun ⟨h0, h1, h2, h3⟩ => ⟨by rw [h0], h1, h2, by rw [h3]⟩⟩
theorem stKy : Tryz.prog.stoodInHeld 199 = false := by kernel_rfl
theorem run_eqKy (a b : Ky) (w : World) : (Op.equalIn 10000 199 (kyV a) (kyV b)).run Tryz.prog w = .ok (kyEq a b) w := by
 have hu : Tryz.prog.underlying 199 = some (.struct (Tryz.prog.fieldsOf 199)) := by kernel_rfl
 rw [run_equalIn_agg w 9999 199 _ _ hu stKy]
 obtain ⟨a0, a1, a2, a3⟩ := a
 obtain ⟨b0, b1, b2, b3⟩ := b
 have hf : ∃ f1 f2 f3 f4 : Field, (Tryz.prog.fieldsOf 199).toList = [f1, f2, f3, f4] ∧ (f1.name ≠ "_" ∧ f2.name ≠ "_" ∧ f3.name ≠ "_" ∧ f4.name ≠ "_") ∧ (f1.type = 9 ∧ f2.type = 3 ∧ f3.type = 3 ∧ f4.type = 9) ∧ f1.offset = 0 ∧ f2.offset = 1 ∧ f3.offset = 2 ∧ f4.offset = 3 := ⟨_, _, _, _, rfl, ⟨by decide, by decide, by decide, by decide⟩, ⟨rfl, rfl, rfl, rfl⟩, rfl, rfl, rfl, rfl⟩
 obtain ⟨f1, f2, f3, f4, e', ⟨n1, n2, n3, n4⟩, ⟨t1, t2, t3, t4⟩, o1, o2, o3, o4⟩ := hf
 rw [e']
 have p1 : ∀ (x : ByteArray) (y z : Int) (u : ByteArray), (part 9 #[.string x, .int .i64 y, .int .i64 z, .string u] 0).run Tryz.prog w = .ok (.string x) w := fun x y z u => by kernel_rfl
 have p2 : ∀ (x : ByteArray) (y z : Int) (u : ByteArray), (part 3 #[.string x, .int .i64 y, .int .i64 z, .string u] 1).run Tryz.prog w = .ok (.int .i64 y) w := fun x y z u => by kernel_rfl
 have p3 : ∀ (x : ByteArray) (y z : Int) (u : ByteArray), (part 3 #[.string x, .int .i64 y, .int .i64 z, .string u] 2).run Tryz.prog w = .ok (.int .i64 z) w := fun x y z u => by kernel_rfl
 have p4 : ∀ (x : ByteArray) (y z : Int) (u : ByteArray), (part 9 #[.string x, .int .i64 y, .int .i64 z, .string u] 3).run Tryz.prog w = .ok (.string u) w := fun x y z u => by kernel_rfl
 simp only [kyEq]
 cases h1 : (a0.toList == b0.toList) <;> cases h2 : (a1 == b1) <;> cases h3 : (a2 == b2) <;> cases h4 : (a3.toList == b3.toList) <;>
  simp [Op.eqFields, n1, n2, n3, n4, t1, t2, t3, t4, o1, o2, o3, o4, p1, p2, p3, p4, run_equalIn_int w _ 3 .i64 .i64 _ _ Tryz.underlying3, run_equalIn_string w _ 9 _ _ Tryz.underlying9, h1, h2, h3, h4]
theorem run_eqlKy (a0 : ByteArray) (a1 a2 : Int) (a3 b0 : ByteArray) (b1 b2 : Int) (b3 : ByteArray) (w : World) : (binOp .eql 199 (.agg #[.string a0, .int .i64 a1, .int .i64 a2, .string a3]) (.agg #[.string b0, .int .i64 b1, .int .i64 b2, .string b3])).run Tryz.prog w = .ok (.bool (kyEq ⟨a0, a1, a2, a3⟩ ⟨b0, b1, b2, b3⟩)) w := by
 have := run_eqKy ⟨a0, a1, a2, a3⟩ ⟨b0, b1, b2, b3⟩ w
 rw [run_eql_struct, this]; rfl
abbrev rowE (v : Value) (l : List En) : Res := rowR v 201 5 l.length (l.flatMap cEn)
abbrev blkC (c : Nat) (v : Value) : Res := blkR c (.cells #[v] 159)
def resC (c : Nat) (l : List En) : Res := exR fun v : Value => sepR [blkC c v, rowE v l]
section
variable {w0 w : World} {D : Nat → Prop} {L : List Res} {c : Nat} {l : List En}
theorem openC' (h : Own w0 D w (resC c l :: L)) : ∃ v, Own w0 D w (blkC c v :: rowE v l :: L) := by
 obtain ⟨v, h⟩ := h.openExC
 exact ⟨v, h.openC⟩
theorem shutC' {v : Value} (h : Own w0 D w (blkC c v :: rowE v l :: L)) : Own w0 D w (resC c l :: L) := Own.shutExC (f := fun v : Value => sepR [blkC c v, rowE v l]) v (Own.shutC (Rs := [blkC c v, rowE v l]) h)
end
def liveB (now : Int) (e : En) : Bool := decide (now < e.ex)
theorem live_any (e : En) (now : Int) (w : World) : Calls Tryz.prog 111 #[enV e, .int .i64 now] w fun e' w' => e' = .returned (.bool (liveB now e)) ∧ Below w.heap.size w w' := by
 obtain ⟨nm, kd, ad, to, ex⟩ := e
 have HR := Hi (show liveB now ⟨nm, kd, ad, to, ex⟩ = decide (now < ex) from rfl)
 have HO := Hi (show Own w none0 w [] from Own.nil w none0)
 obtain ⟨x1, hx1, bx, hbx, hO⟩ := HO.out.allocE (.cells #[.string nm, .int .i64 kd, .int .i64 ad, .string to, .int .i64 ex] 201)
 replace HO := Hi (show Own _ _ _ [blkR bx (.cells #[.string nm, .int .i64 kd, .int .i64 ad, .string to, .int .i64 ex] 201)] from hO)
 clear hO
 obtain ⟨z0_0, z0_1, z0_2, z0_3, z0_4⟩ := HO.out.c5 0 rfl
 go_enter Tryz.func111, Tryz.ntmps111
 go_wp2
 go_ret
 exact ⟨by rw [HR.out]; rfl, HO.out.below⟩
def KyAt (w : World) (b : Nat) (k : Ky) : Prop := w.heap[b]? = some (.cells (kyA k) 199)
theorem KyAt.cell {w : World} {b : Nat} {k : Ky} (h : KyAt w b k) (j : Nat) {u : Value} (hj : (kyA k)[j]? = some u) : w.cell? ⟨b, j, none⟩ = some u := by
 have h' : w.heap[b]? = some (.cells (kyA k) 199) := h
 simp only [World.cell?, h']
 exact hj
theorem KyAt.stay {w w' : World} {b : Nat} {k : Ky} (h : KyAt w b k) (hb : Below w.heap.size w w') : KyAt w' b k := (hb.block b (Array.getElem?_eq_some_iff.1 h).1).trans h
section
attribute [local go_sem ↓] run_eqlKy
end
theorem live_r {e : En} {now : Int} {b : Bool} (h : liveB now e = b) (w : World) : Calls Tryz.prog 111 #[enV e, .int .i64 now] w fun e' w' => e' = .returned (.bool b) ∧ Below w.heap.size w w' := h ▸ live_any e now w
end Go.Proofs.YtbhglemolpfnkaaGreatDoor
