/- The data of package ports in memory: two tables (a map of owners, a map of rows), a map of counts, and the block that holds them. -/
import Derived.Laws.StructEq
import Derived.Test.YtbhglemolpfnkaaGreatDoorTab
import Derived.Test.YtbhglemolpfnkaaGreatDoorProg
set_option linter.unusedVariables false
set_option maxRecDepth 100000
set_option maxHeartbeats 32000000
namespace Go.Proofs.YtbhglemolpfnkaaGreatDoor
open Go.RowKit Go.Sort
set_option linter.unusedSectionVars false

structure Bk where
 pr : Int
 po : Int
deriving DecidableEq
structure Ck where
 po : Int
 th : Int
 tp : Int
deriving DecidableEq
abbrev encB (k : Bk) : Value := .agg #[.int .i64 k.pr, .int .i64 k.po]
abbrev encC (k : Ck) : Value := .agg #[.int .i64 k.po, .int .i64 k.th, .int .i64 k.tp]
def kcB (k : Bk) : List Value := [.int .i64 k.pr, .int .i64 k.po]
def kcC (k : Ck) : List Value := [.int .i64 k.po, .int .i64 k.th, .int .i64 k.tp]

theorem stB : Tryz.prog.stoodInHeld 93 = false := by kernel_rfl
theorem stC : Tryz.prog.stoodInHeld 112 = false := by kernel_rfl
theorem run_eqB (a b c d : Int) (w : World) : (Op.equalIn 10000 93 (.agg #[.int .i64 a, .int .i64 b]) (.agg #[.int .i64 c, .int .i64 d])).run Tryz.prog w = .ok ((a == c) && (b == d)) w := by
 have hu : Tryz.prog.underlying 93 = some (.struct (Tryz.prog.fieldsOf 93)) := by kernel_rfl
 rw [run_equalIn_agg w 9999 93 _ _ hu stB]
 have hf : ∃ f1 f2 : Field, (Tryz.prog.fieldsOf 93).toList = [f1, f2] ∧ f1.name ≠ "_" ∧ f2.name ≠ "_" ∧ f1.type = 3 ∧ f2.type = 3 ∧ f1.offset = 0 ∧ f2.offset = 1 := ⟨_, _, rfl, by decide, by decide, rfl, rfl, rfl, rfl⟩
 obtain ⟨f1, f2, e, n1, n2, t1, t2, o1, o2⟩ := hf
 rw [e]
 have p1 : ∀ x y : Int, (part 3 #[.int .i64 x, .int .i64 y] 0).run Tryz.prog w = .ok (.int .i64 x) w := fun x y => by kernel_rfl
 have p2 : ∀ x y : Int, (part 3 #[.int .i64 x, .int .i64 y] 1).run Tryz.prog w = .ok (.int .i64 y) w := fun x y => by kernel_rfl
 cases h1 : (a == c) <;> cases h2 : (b == d) <;> simp [Op.eqFields, n1, n2, t1, t2, o1, o2, p1, p2, run_equalIn_int w _ 3 .i64 .i64 _ _ Tryz.underlying3, h1, h2]
theorem run_eqC (a b c d e f : Int) (w : World) : (Op.equalIn 10000 112 (.agg #[.int .i64 a, .int .i64 b, .int .i64 c]) (.agg #[.int .i64 d, .int .i64 e, .int .i64 f])).run Tryz.prog w = .ok ((a == d) && ((b == e) && (c == f))) w := by
 have hu : Tryz.prog.underlying 112 = some (.struct (Tryz.prog.fieldsOf 112)) := by kernel_rfl
 rw [run_equalIn_agg w 9999 112 _ _ hu stC]
 have hf : ∃ f1 f2 f3 : Field, (Tryz.prog.fieldsOf 112).toList = [f1, f2, f3] ∧ f1.name ≠ "_" ∧ f2.name ≠ "_" ∧ f3.name ≠ "_" ∧ f1.type = 3 ∧ f2.type = 3 ∧ f3.type = 3 ∧ f1.offset = 0 ∧ f2.offset = 1 ∧ f3.offset = 2 := ⟨_, _, _, rfl, by decide, by decide, by decide, rfl, rfl, rfl, rfl, rfl, rfl⟩
 obtain ⟨f1, f2, f3, e', n1, n2, n3, t1, t2, t3, o1, o2, o3⟩ := hf
 rw [e']
 have p1 : ∀ x y z : Int, (part 3 #[.int .i64 x, .int .i64 y, .int .i64 z] 0).run Tryz.prog w = .ok (.int .i64 x) w := fun x y z => by kernel_rfl
 have p2 : ∀ x y z : Int, (part 3 #[.int .i64 x, .int .i64 y, .int .i64 z] 1).run Tryz.prog w = .ok (.int .i64 y) w := fun x y z => by kernel_rfl
 have p3 : ∀ x y z : Int, (part 3 #[.int .i64 x, .int .i64 y, .int .i64 z] 2).run Tryz.prog w = .ok (.int .i64 z) w := fun x y z => by kernel_rfl
 cases h1 : (a == d) <;> cases h2 : (b == e) <;> cases h3 : (c == f) <;> simp [Op.eqFields, n1, n2, n3, t1, t2, t3, o1, o2, o3, p1, p2, p3, run_equalIn_int w _ 3 .i64 .i64 _ _ Tryz.underlying3, h1, h2, h3]

theorem keyB : KeyRun Tryz.prog 93 encB where
 check := fun e k w => by kernel_rfl
 find := ⟨.struct (Tryz.prog.fieldsOf 93), by kernel_rfl, .inr ⟨fun a b => rfl, fun a b w => by
  show (Op.equalIn 10000 93 _ _).run Tryz.prog w = _
  rw [run_eqB]
  congr 1
  cases a; cases b
  rw [Bool.eq_iff_iff]
  simp⟩⟩
 bits := fun a => by
  have : ∀ x y : Int, Instr.sameBits 10000 (.agg #[.int .i64 x, .int .i64 y]) (.agg #[.int .i64 x, .int .i64 y]) = ((x == x) && (y == y)) := fun x y => by
   simp [Instr.sameBits]
  rw [this]; simp
theorem keyC : KeyRun Tryz.prog 112 encC where
 check := fun e k w => by kernel_rfl
 find := ⟨.struct (Tryz.prog.fieldsOf 112), by kernel_rfl, .inr ⟨fun a b => rfl, fun a b w => by
  show (Op.equalIn 10000 112 _ _).run Tryz.prog w = _
  rw [run_eqC]
  congr 1
  cases a; cases b
  rw [Bool.eq_iff_iff]
  simp⟩⟩
 bits := fun a => by
  have : ∀ x y z : Int, Instr.sameBits 10000 (.agg #[.int .i64 x, .int .i64 y, .int .i64 z]) (.agg #[.int .i64 x, .int .i64 y, .int .i64 z]) = ((x == x) && ((y == y) && (z == z))) := fun x y z => by
   simp [Instr.sameBits]
  rw [this]; simp
theorem keyN : KeyRun Tryz.prog 3 encI := keyInt Tryz.prog 3 Tryz.underlying3

theorem zeroN (w : World) : (zeroValue 3).run Tryz.prog w = .ok (.int .i64 0) w := by kernel_rfl
theorem zeroRB (w : World) : (zeroValue 152).run Tryz.prog w = .ok (.slice none 0 0) w := by kernel_rfl
theorem zeroRC (w : World) : (zeroValue 113).run Tryz.prog w = .ok (.slice none 0 0) w := by kernel_rfl
theorem infoB : (Tryz.prog.info? 93).map (fun i => (i.zero, i.size, i.bytes)) = some (some (.agg #[.int .i64 0, .int .i64 0]), 2, 16) := by kernel_rfl
theorem infoC : (Tryz.prog.info? 112).map (fun i => (i.zero, i.size, i.bytes)) = some (some (.agg #[.int .i64 0, .int .i64 0, .int .i64 0]), 3, 24) := by kernel_rfl

abbrev TabB (w : World) (o h : Value) (m : List (Bk × Int)) (F : Nat → Prop) : Prop := TabAt encB kcB 93 2 w o h m F
abbrev TabC (w : World) (o h : Value) (m : List (Ck × Int)) (F : Nat → Prop) : Prop := TabAt encC kcC 112 3 w o h m F

theorem TabB.look {w : World} {o h : Value} {m : List (Bk × Int)} {F : Nat → Prop} (t : TabB w o h m F) (k : Bk) :
  (Instr.lookup 80 o (encB k) true).run Tryz.prog w = .ok (.tuple #[.int .i64 ((look k m).getD 0), .bool (look k m).isSome]) w := by
 rcases t.is with ⟨rfl, _, rfl⟩ | ⟨bo, bh, hm, rfl, _, _, _, _, hM, _⟩
 ·
  exact keyB.lookup_nil Tryz.underlying80 (zeroN w) k true
 ·
  rw [keyB.lookup Tryz.underlying80 (zeroN w) hM k true, asc_ownM]
  cases Proofs.YtbhglemolpfnkaaGreatDoor.look k m <;> rfl
theorem TabC.look {w : World} {o h : Value} {m : List (Ck × Int)} {F : Nat → Prop} (t : TabC w o h m F) (k : Ck) :
  (Instr.lookup 84 o (encC k) true).run Tryz.prog w = .ok (.tuple #[.int .i64 ((look k m).getD 0), .bool (look k m).isSome]) w := by
 rcases t.is with ⟨rfl, _, rfl⟩ | ⟨bo, bh, hm, rfl, _, _, _, _, hM, _⟩
 ·
  exact keyC.lookup_nil Tryz.underlying84 (zeroN w) k true
 ·
  rw [keyC.lookup Tryz.underlying84 (zeroN w) hM k true, asc_ownM]
  cases Proofs.YtbhglemolpfnkaaGreatDoor.look k m <;> rfl
theorem TabB.row {w : World} {o h : Value} {m : List (Bk × Int)} {F : Nat → Prop} (t : TabB w o h m F) (s : Int) :
  ∃ v, w.ownsRow 0 93 2 v (heldOf m s).length ((heldOf m s).flatMap kcB) ∧ ∀ w', Below w.heap.size w w' → (Instr.lookup 81 h (.int .i64 s) false).run Tryz.prog w' = .ok v w' := by
 rcases t.is with ⟨_, rfl, rfl⟩ | ⟨bo, bh, hm, _, rfl, _, _, _, _, hH, hR⟩
 ·
  exact ⟨.slice none 0 0, World.ownsRow_nil w _ _ _, fun w' _ => keyN.lookup_nil Tryz.underlying81 (zeroRB w') s false⟩
 ·
  exact ⟨_, hR.get s, fun w' hb => keyN.lookup Tryz.underlying81 (zeroRB w') (hH.stay hb) s false⟩
theorem TabC.row {w : World} {o h : Value} {m : List (Ck × Int)} {F : Nat → Prop} (t : TabC w o h m F) (s : Int) :
  ∃ v, w.ownsRow 0 112 3 v (heldOf m s).length ((heldOf m s).flatMap kcC) ∧ ∀ w', Below w.heap.size w w' → (Instr.lookup 85 h (.int .i64 s) false).run Tryz.prog w' = .ok v w' := by
 rcases t.is with ⟨_, rfl, rfl⟩ | ⟨bo, bh, hm, _, rfl, _, _, _, _, hH, hR⟩
 ·
  exact ⟨.slice none 0 0, World.ownsRow_nil w _ _ _, fun w' _ => keyN.lookup_nil Tryz.underlying85 (zeroRC w') s false⟩
 ·
  exact ⟨_, hR.get s, fun w' hb => keyN.lookup Tryz.underlying85 (zeroRC w') (hH.stay hb) s false⟩
theorem row_slice {w : World} {E : TypeId} {sz n : Nat} {v : Value} {xs : List Value} (h : w.ownsRow 0 E sz v n xs) : ∃ a c, v = .slice a n c := by
 rcases h.2 with ⟨e, hn⟩ | ⟨g, c, _, e, _⟩
 ·
  exact ⟨none, 0, by rw [e, hn]⟩
 ·
  exact ⟨_, _, e⟩
theorem row_cell {w : World} {E : TypeId} {sz n : Nat} {v : Value} {xs : List Value} (h : w.ownsRow 0 E sz v n xs) (hn : n ≠ 0) : ∃ g c, v = .slice (some ⟨g, 0, none⟩) n c ∧ n ≤ c ∧ ∀ j, j < n * sz → w.cell? ⟨g, j, none⟩ = xs[j]? := by
 rcases h.2 with ⟨e, h0⟩ | ⟨g, c, cur, e, _, hh, hc, _, hs, htk⟩
 ·
  exact absurd h0 hn
 ·
  refine ⟨g, c, e, hc, fun j hj => ?_⟩
  rw [← htk, List.getElem?_take, if_pos hj]
  simp [World.cell?, hh]

def cntP (J : List (Ck × Int)) (p : Int) : Int := (J.filter fun x => x.1.po = p).length
structure LocAt (w : World) (o : Value) (c : Int → Int) (F : Nat → Prop) : Prop where
 bound : ∀ b, F b → b < w.heap.size
 is : (o = .map none ∧ ∀ p, c p = 0) ∨ ∃ lo lm, o = .map (some lo) ∧ F lo ∧ MapB encI w lo lm ∧ (lm.map (·.1)).Nodup ∧ ∀ p, asc p lm = if c p = 0 then none else some (.int .i64 (c p))
theorem LocAt.upd {F G : Nat → Prop} {w w' : World} {o : Value} {c : Int → Int} (h : LocAt w o c F) (hu : Upd G w w') (hFG : ∀ b, F b → ¬ G b) : LocAt w' o c F := by
 refine ⟨fun b hb => Nat.lt_of_lt_of_le (h.bound b hb) hu.size, ?_⟩
 rcases h.is with h1 | ⟨lo, lm, e, h2, h3, h4, h5⟩
 ·
  exact .inl h1
 ·
  exact .inr ⟨lo, lm, e, h2, h3.upd hu (hFG _ h2), h4, h5⟩
theorem LocAt.look {F : Nat → Prop} {w : World} {o : Value} {c : Int → Int} (h : LocAt w o c F) (p : Int) : (Instr.lookup 88 o (.int .i64 p) false).run Tryz.prog w = .ok (.int .i64 (c p)) w := by
 rcases h.is with ⟨rfl, h0⟩ | ⟨lo, lm, rfl, _, hM, _, hc⟩
 ·
  rw [h0 p]; exact keyN.lookup_nil Tryz.underlying88 (zeroN w) p false
 ·
  rw [keyN.lookup Tryz.underlying88 (zeroN w) hM p false, hc p]
  by_cases h0 : c p = 0
  ·
   rw [if_pos h0, h0]; rfl
  ·
   rw [if_neg h0]; rfl

structure PSt where
 seed : Int
 given : Int
 B : List (Bk × Int)
 J : List (Ck × Int)

structure PAt (w : World) (p : Nat) (st : PSt) (F : Nat → Prop) : Prop where
 is : ∃ o2 o3 o4 o5 o6 FB FC FL, w.heap[p]? = some (.cells #[.int .i64 st.seed, .int .i64 st.given, o2, o3, o4, o5, o6] 90) ∧ TabB w o2 o3 st.B FB ∧ TabC w o4 o5 st.J FC ∧ LocAt w o6 (cntP st.J) FL ∧
  (∀ b, F b ↔ b = p ∨ FB b ∨ FC b ∨ FL b) ∧ (∀ b, FB b → b ≠ p ∧ ¬ FC b ∧ ¬ FL b) ∧ (∀ b, FC b → b ≠ p ∧ ¬ FL b) ∧ ∀ b, FL b → b ≠ p
theorem PAt.upd {F G : Nat → Prop} {w w' : World} {p : Nat} {st : PSt} (h : PAt w p st F) (hu : Upd G w w') (hFG : ∀ b, F b → ¬ G b) : PAt w' p st F := by
 obtain ⟨o2, o3, o4, o5, o6, FB, FC, FL, hp, hB, hC, hL, hF, h1, h2, h3⟩ := h.is
 refine ⟨o2, o3, o4, o5, o6, FB, FC, FL, (hu.block p (Array.getElem?_eq_some_iff.1 hp).1 (hFG p ((hF p).2 (.inl rfl)))).trans hp, hB.upd hu (fun b hb => hFG b ((hF b).2 (.inr (.inl hb)))), hC.upd hu (fun b hb => hFG b ((hF b).2 (.inr (.inr (.inl hb))))), hL.upd hu (fun b hb => hFG b ((hF b).2 (.inr (.inr (.inr hb))))), hF, h1, h2, h3⟩
theorem PAt.stay {F : Nat → Prop} {w w' : World} {p : Nat} {st : PSt} (hb : Below w.heap.size w w') (h : PAt w p st F) : PAt w' p st F := h.upd (G := fun _ => False) (Upd.of_below hb) (fun _ _ h => h)
theorem PAt.bound {F : Nat → Prop} {w : World} {p : Nat} {st : PSt} (h : PAt w p st F) : ∀ b, F b → b < w.heap.size := by
 obtain ⟨o2, o3, o4, o5, o6, FB, FC, FL, hp, hB, hC, hL, hF, h1, h2, h3⟩ := h.is
 intro b hb
 rcases (hF b).1 hb with rfl | h | h | h
 ·
  exact (Array.getElem?_eq_some_iff.1 hp).1
 ·
  exact hB.bound b h
 ·
  exact hC.bound b h
 ·
  exact hL.bound b h
theorem blk_cell {w : World} {b : Nat} {c : Array Value} {t : TypeId} (h : w.heap[b]? = some (.cells c t)) (i : Nat) : w.cell? ⟨b, i, none⟩ = c[i]? := by simp [World.cell?, h]
theorem blk_frz {w : World} {b : Nat} {c : Array Value} {t : TypeId} (h : w.heap[b]? = some (.cells c t)) (i : Nat) : w.frozen? ⟨b, i, none⟩ = false := by simp [World.frozen?, h]
theorem blk_lt {w : World} {b : Nat} {o : Obj} (h : w.heap[b]? = some o) : b < w.heap.size := (Array.getElem?_eq_some_iff.1 h).1
theorem blk_set {w : World} {b : Nat} {c : Array Value} {t : TypeId} (h : w.heap[b]? = some (.cells c t)) (i : Nat) (v : Value) : (w.setCell ⟨b, i, none⟩ v).heap[b]? = some (.cells (c.setIfInBounds i v) t) := by
 have hlt := blk_lt h
 have h' : w.heap[b] = .cells c t := by simpa [Array.getElem?_eq_getElem hlt] using h
 show (w.heap.modify b _)[b]? = _
 rw [Array.getElem?_eq_getElem (by simpa using hlt), Array.getElem_modify_self, h']
 rfl
theorem blk_stay {w w' : World} {b : Nat} {o : Obj} (hb : Below w.heap.size w w') (h : w.heap[b]? = some o) : w'.heap[b]? = some o := (hb.block b (blk_lt h)).trans h
theorem blk_upd {F : Nat → Prop} {w w' : World} {b : Nat} {o : Obj} (hu : Upd F w w') (hF : ¬ F b) (h : w.heap[b]? = some o) : w'.heap[b]? = some o := (hu.block b (blk_lt h) hF).trans h

end Go.Proofs.YtbhglemolpfnkaaGreatDoor
