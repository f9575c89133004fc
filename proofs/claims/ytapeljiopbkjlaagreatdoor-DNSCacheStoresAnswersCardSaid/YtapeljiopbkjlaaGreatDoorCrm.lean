/- Contracts of remove. Printed by wip/tools/gen20d.py. -/
import Derived.Test.YtapeljiopbkjlaaGreatDoorCdf
namespace Go.Proofs.YtapeljiopbkjlaaGreatDoor
open Go.RowKit Go.Sort
set_option linter.unusedVariables false
set_option maxRecDepth 100000

/-- One thing, changed to one of several, by a call that works on its blocks alone. -/
theorem o_stepE {P : Program} {f : FuncId} {args : Array Value} {w0 w : World} {D : Nat → Prop} {L : List Res} {i : Nat} {R : Res} {α : Type} {Q : α → Value → Prop} {R' : α → Res} (h : Own w0 D w L) (hi : L[i]? = some R)
    (hc : ∀ F, R.P w F → (∀ b, F b → D b ∨ w0.heap.size ≤ b) → Calls P f args w fun e w' => ∃ x v, Q x v ∧ e = .returned v ∧ Own w F w' [R' x] ∧ w.heap.size ≤ w'.heap.size) : Calls P f args w fun e w' => ∃ x v, Q x v ∧ e = .returned v ∧ Own w0 D w' (L.set i (R' x)) ∧ w.heap.size ≤ w'.heap.size := by
  obtain ⟨F, h1, h2, h3⟩ := h.step hi
  refine (hc F h1 h2).mono fun e w' ⟨x, v, hq, he, ho, hs⟩ => ?_
  obtain ⟨F', g1, g2, _⟩ := ho.step (i := 0) rfl
  exact ⟨x, v, hq, he, h3 g1 g2 ho.upd, hs⟩
set_option maxHeartbeats 4000000 in
theorem removeP_o {w0 w : World} {D : Nat → Prop} {L : List Res} {c : Nat} {l : List En} (p : En → Bool) (b1 b2 : Nat) (h : Own w0 D w L) (i : Nat) (hi : L[i]? = some (resC c l)) (hp : ∀ F, (resC c l).P w F → (∀ b, F b → D b ∨ w0.heap.size ≤ b) → ∀ w', Upd F w w' → ∀ x : En, Calls Tryz.prog 27 #[enV x, .pointer (some ⟨b1, 0, none⟩), .pointer (some ⟨b2, 0, none⟩)] w' fun e w'' => e = .returned (.bool (p x)) ∧ Below w'.heap.size w' w'') (hl : l.length ≤ 1000) :
    Calls Tryz.prog 26 #[.pointer (some ⟨c, 0, none⟩), .func (.func 27) #[] #[.pointer (some ⟨b1, 0, none⟩), .pointer (some ⟨b2, 0, none⟩)]] w (OPost w0 D (L.set i (resC c (l.filter fun x => !p x))) (.tuple #[]) w) := by
  obtain ⟨G, hG, hGD, hback⟩ := h.step hi
  have HP := Lib.hid (hp G hG hGD)
  have HL := Lib.hid hl
  obtain ⟨v, hO⟩ := openC' (Own.one hG)
  have HO := Lib.hid (show Own w G w [blkC c v, rowE v l] from hO)
  have HB := Lib.hid (show ∀ w', Own w G w' [resC c (l.filter fun x => !p x)] → Own w0 D w' (L.set i (resC c (l.filter fun x => !p x))) from fun w' ho => by
    obtain ⟨F', g1, g2, _⟩ := ho.step (i := 0) rfl
    exact hback g1 g2 ho.upd)
  clear h hi hp hl hO hG hGD hback
  have c1 : w.cell? ⟨c, 0, none⟩ = some v := HO.out.cell 0 rfl 0 rfl
  have hdel := o_stepE (Q := fun (v' : Value) u => u = v') (R' := fun v' => rowE v' (l.filter fun x => !p x)) HO.out (i := 1) rfl (fun Fr hFr hFD => (delP l p b1 b2 (Own.one hFr) (fun w' hu x => HP.out w' (hu.mono fun b hb hf => (hFD b hf).elim id (fun h => absurd h (by omega))) x) HL.out).mono fun e w' ⟨v', he, ho, hs⟩ => ⟨v', v', rfl, he, ho, hs⟩)
  go_enter Tryz.func26, Tryz.ntmps26
  go_wp2_with fail
  refine hdel.mono ?_
  rintro e x1 ⟨v', u, rfl, rfl, hO, hs⟩
  have HS := Lib.hid hs
  replace HO := Lib.hid (show Own w G x1 [blkC c v, rowE u (l.filter fun x => !p x)] from hO)
  obtain ⟨ua, uc, hu⟩ := row_shape (HO.out.row 1 rfl)
  obtain ⟨un, hun⟩ : ∃ un, (l.filter fun x => !p x).length = un := ⟨_, rfl⟩
  rw [hun] at hu
  subst hu
  clear hdel hO hs c1 hun
  have c1 : x1.cell? ⟨c, 0, none⟩ = some v := HO.out.cell 0 rfl 0 rfl
  have f1 : x1.frozen? ⟨c, 0, none⟩ = false := HO.out.frz 0 rfl 0
  obtain ⟨x2, hx2⟩ : ∃ y, x1.setCell ⟨c, 0, none⟩ (.slice ua un uc) = y := ⟨_, rfl⟩
  have hO := HO.out.setCell 0 rfl 0 (.slice ua un uc)
  rw [hx2] at hO
  have HO2 := Lib.hid (shutC' (show Own w G x2 [blkC c (.slice ua un uc), rowE (.slice ua un uc) (l.filter fun x => !p x)] from hO))
  clear hO
  go_wp2
  go_end0
  exact ⟨rfl, HB.out _ HO2.out, HO2.out.size⟩
set_option maxHeartbeats 4000000 in
theorem removeN_o {w0 w : World} {D : Nat → Prop} {L : List Res} {c : Nat} {l : List En} (p : En → Bool) (b1 : Nat) (h : Own w0 D w L) (i : Nat) (hi : L[i]? = some (resC c l)) (hp : ∀ F, (resC c l).P w F → (∀ b, F b → D b ∨ w0.heap.size ≤ b) → ∀ w', Upd F w w' → ∀ x : En, Calls Tryz.prog 34 #[enV x, .pointer (some ⟨b1, 0, none⟩)] w' fun e w'' => e = .returned (.bool (p x)) ∧ Below w'.heap.size w' w'') (hl : l.length ≤ 1000) :
    Calls Tryz.prog 26 #[.pointer (some ⟨c, 0, none⟩), .func (.func 34) #[] #[.pointer (some ⟨b1, 0, none⟩)]] w (OPost w0 D (L.set i (resC c (l.filter fun x => !p x))) (.tuple #[]) w) := by
  obtain ⟨G, hG, hGD, hback⟩ := h.step hi
  have HP := Lib.hid (hp G hG hGD)
  have HL := Lib.hid hl
  obtain ⟨v, hO⟩ := openC' (Own.one hG)
  have HO := Lib.hid (show Own w G w [blkC c v, rowE v l] from hO)
  have HB := Lib.hid (show ∀ w', Own w G w' [resC c (l.filter fun x => !p x)] → Own w0 D w' (L.set i (resC c (l.filter fun x => !p x))) from fun w' ho => by
    obtain ⟨F', g1, g2, _⟩ := ho.step (i := 0) rfl
    exact hback g1 g2 ho.upd)
  clear h hi hp hl hO hG hGD hback
  have c1 : w.cell? ⟨c, 0, none⟩ = some v := HO.out.cell 0 rfl 0 rfl
  have hdel := o_stepE (Q := fun (v' : Value) u => u = v') (R' := fun v' => rowE v' (l.filter fun x => !p x)) HO.out (i := 1) rfl (fun Fr hFr hFD => (delN l p b1 (Own.one hFr) (fun w' hu x => HP.out w' (hu.mono fun b hb hf => (hFD b hf).elim id (fun h => absurd h (by omega))) x) HL.out).mono fun e w' ⟨v', he, ho, hs⟩ => ⟨v', v', rfl, he, ho, hs⟩)
  go_enter Tryz.func26, Tryz.ntmps26
  go_wp2_with fail
  refine hdel.mono ?_
  rintro e x1 ⟨v', u, rfl, rfl, hO, hs⟩
  have HS := Lib.hid hs
  replace HO := Lib.hid (show Own w G x1 [blkC c v, rowE u (l.filter fun x => !p x)] from hO)
  obtain ⟨ua, uc, hu⟩ := row_shape (HO.out.row 1 rfl)
  obtain ⟨un, hun⟩ : ∃ un, (l.filter fun x => !p x).length = un := ⟨_, rfl⟩
  rw [hun] at hu
  subst hu
  clear hdel hO hs c1 hun
  have c1 : x1.cell? ⟨c, 0, none⟩ = some v := HO.out.cell 0 rfl 0 rfl
  have f1 : x1.frozen? ⟨c, 0, none⟩ = false := HO.out.frz 0 rfl 0
  obtain ⟨x2, hx2⟩ : ∃ y, x1.setCell ⟨c, 0, none⟩ (.slice ua un uc) = y := ⟨_, rfl⟩
  have hO := HO.out.setCell 0 rfl 0 (.slice ua un uc)
  rw [hx2] at hO
  have HO2 := Lib.hid (shutC' (show Own w G x2 [blkC c (.slice ua un uc), rowE (.slice ua un uc) (l.filter fun x => !p x)] from hO))
  clear hO
  go_wp2
  go_end0
  exact ⟨rfl, HB.out _ HO2.out, HO2.out.size⟩
set_option maxHeartbeats 4000000 in
theorem removeT_o {w0 w : World} {D : Nat → Prop} {L : List Res} {c : Nat} {l : List En} (p : En → Bool) (b1 : Nat) (h : Own w0 D w L) (i : Nat) (hi : L[i]? = some (resC c l)) (hp : ∀ F, (resC c l).P w F → (∀ b, F b → D b ∨ w0.heap.size ≤ b) → ∀ w', Upd F w w' → ∀ x : En, Calls Tryz.prog 35 #[enV x, .pointer (some ⟨b1, 0, none⟩)] w' fun e w'' => e = .returned (.bool (p x)) ∧ Below w'.heap.size w' w'') (hl : l.length ≤ 1000) :
    Calls Tryz.prog 26 #[.pointer (some ⟨c, 0, none⟩), .func (.func 35) #[] #[.pointer (some ⟨b1, 0, none⟩)]] w (OPost w0 D (L.set i (resC c (l.filter fun x => !p x))) (.tuple #[]) w) := by
  obtain ⟨G, hG, hGD, hback⟩ := h.step hi
  have HP := Lib.hid (hp G hG hGD)
  have HL := Lib.hid hl
  obtain ⟨v, hO⟩ := openC' (Own.one hG)
  have HO := Lib.hid (show Own w G w [blkC c v, rowE v l] from hO)
  have HB := Lib.hid (show ∀ w', Own w G w' [resC c (l.filter fun x => !p x)] → Own w0 D w' (L.set i (resC c (l.filter fun x => !p x))) from fun w' ho => by
    obtain ⟨F', g1, g2, _⟩ := ho.step (i := 0) rfl
    exact hback g1 g2 ho.upd)
  clear h hi hp hl hO hG hGD hback
  have c1 : w.cell? ⟨c, 0, none⟩ = some v := HO.out.cell 0 rfl 0 rfl
  have hdel := o_stepE (Q := fun (v' : Value) u => u = v') (R' := fun v' => rowE v' (l.filter fun x => !p x)) HO.out (i := 1) rfl (fun Fr hFr hFD => (delT l p b1 (Own.one hFr) (fun w' hu x => HP.out w' (hu.mono fun b hb hf => (hFD b hf).elim id (fun h => absurd h (by omega))) x) HL.out).mono fun e w' ⟨v', he, ho, hs⟩ => ⟨v', v', rfl, he, ho, hs⟩)
  go_enter Tryz.func26, Tryz.ntmps26
  go_wp2_with fail
  refine hdel.mono ?_
  rintro e x1 ⟨v', u, rfl, rfl, hO, hs⟩
  have HS := Lib.hid hs
  replace HO := Lib.hid (show Own w G x1 [blkC c v, rowE u (l.filter fun x => !p x)] from hO)
  obtain ⟨ua, uc, hu⟩ := row_shape (HO.out.row 1 rfl)
  obtain ⟨un, hun⟩ : ∃ un, (l.filter fun x => !p x).length = un := ⟨_, rfl⟩
  rw [hun] at hu
  subst hu
  clear hdel hO hs c1 hun
  have c1 : x1.cell? ⟨c, 0, none⟩ = some v := HO.out.cell 0 rfl 0 rfl
  have f1 : x1.frozen? ⟨c, 0, none⟩ = false := HO.out.frz 0 rfl 0
  obtain ⟨x2, hx2⟩ : ∃ y, x1.setCell ⟨c, 0, none⟩ (.slice ua un uc) = y := ⟨_, rfl⟩
  have hO := HO.out.setCell 0 rfl 0 (.slice ua un uc)
  rw [hx2] at hO
  have HO2 := Lib.hid (shutC' (show Own w G x2 [blkC c (.slice ua un uc), rowE (.slice ua un uc) (l.filter fun x => !p x)] from hO))
  clear hO
  go_wp2
  go_end0
  exact ⟨rfl, HB.out _ HO2.out, HO2.out.size⟩

end Go.Proofs.YtapeljiopbkjlaaGreatDoor
