/- Contracts of In, Out, Len. Printed by wip/tools/gen22h.py. -/
import Derived.Test.YtjngfhgcifhioaaFw7
namespace Go.Proofs.Ytjngfhgcifhioaa
open Go.RowKit Go.Sort
set_option linter.unusedVariables false
set_option maxRecDepth 100000

section
variable {w0 w : World} {D : Nat → Prop} {L : List Res} {f : Nat} {st : FSt}
set_option maxHeartbeats 2000000 in
theorem in_o {now : Int} {x : Fl} (h : Own w0 D w L) (i : Nat) (hi : L[i]? = some (resF f st)) (hI : FI st) (hz : ∀ x ∈ st.m, x.1 ≠ ⟨0, 0, 0, 0, 0⟩) (hml : st.m.length ≤ 1000) (hnow : timeB now) :
    Calls Try.prog 11 #[.pointer (some ⟨f, 0, none⟩), .int .i64 now, flV x] w (PassO w0 D L i f st now x true w) := by
  refine o_oneE (Q := fun (s : Bool × FSt) v => PassR st now x true s.1 s.2 ∧ v = .bool s.1) (R' := fun s => resF f s.2) h hi fun D HO0 => ?_
  clear h hi
  have HI := Lib.hid hI
  have HZ := Lib.hid hz
  have HML := Lib.hid hml
  have HNW := Lib.hid hnow
  clear hI hz hml hnow
  obtain ⟨pr, he, hp, th, tp, sy, fi, rs, sq⟩ := x
  have HO := Lib.hid (show Own w D w [resF f st] from HO0)
  clear HO0
  obtain ⟨x1, hx1⟩ : ∃ y, w.alloc (.cells #[.int .i64 pr, .int .i64 he, .int .i64 hp, .int .i64 th, .int .i64 tp, .bool sy, .bool fi, .bool rs, .int .i64 sq] 37) = y := ⟨_, rfl⟩
  obtain ⟨bx, hbx⟩ : ∃ y, w.heap.size = y := ⟨_, rfl⟩
  have hO := HO.out.alloc (.cells #[.int .i64 pr, .int .i64 he, .int .i64 hp, .int .i64 th, .int .i64 tp, .bool sy, .bool fi, .bool rs, .int .i64 sq] 37)
  rw [hx1, hbx] at hO
  replace HO := Lib.hid (show Own w D x1 [resF f st, blkR bx (.cells #[.int .i64 pr, .int .i64 he, .int .i64 hp, .int .i64 th, .int .i64 tp, .bool sy, .bool fi, .bool rs, .int .i64 sq] 37)] from hO)
  clear hO
  have z1_0 : x1.cell? ⟨bx, 0, none⟩ = some (.int .i64 pr) := HO.out.cell 1 rfl 0 rfl
  have z1_1 : x1.cell? ⟨bx, 1, none⟩ = some (.int .i64 he) := HO.out.cell 1 rfl 1 rfl
  have z1_2 : x1.cell? ⟨bx, 2, none⟩ = some (.int .i64 hp) := HO.out.cell 1 rfl 2 rfl
  have z1_3 : x1.cell? ⟨bx, 3, none⟩ = some (.int .i64 th) := HO.out.cell 1 rfl 3 rfl
  have z1_4 : x1.cell? ⟨bx, 4, none⟩ = some (.int .i64 tp) := HO.out.cell 1 rfl 4 rfl
  have z1_5 : x1.cell? ⟨bx, 5, none⟩ = some (.bool sy) := HO.out.cell 1 rfl 5 rfl
  have z1_6 : x1.cell? ⟨bx, 6, none⟩ = some (.bool fi) := HO.out.cell 1 rfl 6 rfl
  have z1_7 : x1.cell? ⟨bx, 7, none⟩ = some (.bool rs) := HO.out.cell 1 rfl 7 rfl
  have z1_8 : x1.cell? ⟨bx, 8, none⟩ = some (.int .i64 sq) := HO.out.cell 1 rfl 8 rfl
  go_enter Try.func11, Try.ntmps11
  go_wp2_with fail
  refine (passes_o (x := ⟨pr, he, hp, th, tp, sy, fi, rs, sq⟩) (inn := true) HO.out 0 rfl HI.out HZ.out HML.out HNW.out).mono ?_
  rintro e y1 ⟨⟨b, st2⟩, v, ⟨hP, rfl⟩, rfl, hO, -⟩
  clear hx1 hbx z1_0 z1_1 z1_2 z1_3 z1_4 z1_5 z1_6 z1_7 z1_8
  have HP := Lib.hid hP
  clear hP
  replace HO := Lib.hid (show Own w D y1 [resF f st2, blkR bx (.cells #[.int .i64 pr, .int .i64 he, .int .i64 hp, .int .i64 th, .int .i64 tp, .bool sy, .bool fi, .bool rs, .int .i64 sq] 37)] from hO)
  clear hO
  go_wp2
  go_ret
  exact ⟨(b, st2), _, ⟨HP.out, rfl⟩, rfl, HO.out.take 1, HO.out.size⟩
set_option maxHeartbeats 2000000 in
theorem out_o {now : Int} {x : Fl} (h : Own w0 D w L) (i : Nat) (hi : L[i]? = some (resF f st)) (hI : FI st) (hz : ∀ x ∈ st.m, x.1 ≠ ⟨0, 0, 0, 0, 0⟩) (hml : st.m.length ≤ 1000) (hnow : timeB now) :
    Calls Try.prog 10 #[.pointer (some ⟨f, 0, none⟩), .int .i64 now, flV x] w (PassO w0 D L i f st now x false w) := by
  refine o_oneE (Q := fun (s : Bool × FSt) v => PassR st now x false s.1 s.2 ∧ v = .bool s.1) (R' := fun s => resF f s.2) h hi fun D HO0 => ?_
  clear h hi
  have HI := Lib.hid hI
  have HZ := Lib.hid hz
  have HML := Lib.hid hml
  have HNW := Lib.hid hnow
  clear hI hz hml hnow
  obtain ⟨pr, he, hp, th, tp, sy, fi, rs, sq⟩ := x
  have HO := Lib.hid (show Own w D w [resF f st] from HO0)
  clear HO0
  obtain ⟨x1, hx1⟩ : ∃ y, w.alloc (.cells #[.int .i64 pr, .int .i64 he, .int .i64 hp, .int .i64 th, .int .i64 tp, .bool sy, .bool fi, .bool rs, .int .i64 sq] 37) = y := ⟨_, rfl⟩
  obtain ⟨bx, hbx⟩ : ∃ y, w.heap.size = y := ⟨_, rfl⟩
  have hO := HO.out.alloc (.cells #[.int .i64 pr, .int .i64 he, .int .i64 hp, .int .i64 th, .int .i64 tp, .bool sy, .bool fi, .bool rs, .int .i64 sq] 37)
  rw [hx1, hbx] at hO
  replace HO := Lib.hid (show Own w D x1 [resF f st, blkR bx (.cells #[.int .i64 pr, .int .i64 he, .int .i64 hp, .int .i64 th, .int .i64 tp, .bool sy, .bool fi, .bool rs, .int .i64 sq] 37)] from hO)
  clear hO
  have z1_0 : x1.cell? ⟨bx, 0, none⟩ = some (.int .i64 pr) := HO.out.cell 1 rfl 0 rfl
  have z1_1 : x1.cell? ⟨bx, 1, none⟩ = some (.int .i64 he) := HO.out.cell 1 rfl 1 rfl
  have z1_2 : x1.cell? ⟨bx, 2, none⟩ = some (.int .i64 hp) := HO.out.cell 1 rfl 2 rfl
  have z1_3 : x1.cell? ⟨bx, 3, none⟩ = some (.int .i64 th) := HO.out.cell 1 rfl 3 rfl
  have z1_4 : x1.cell? ⟨bx, 4, none⟩ = some (.int .i64 tp) := HO.out.cell 1 rfl 4 rfl
  have z1_5 : x1.cell? ⟨bx, 5, none⟩ = some (.bool sy) := HO.out.cell 1 rfl 5 rfl
  have z1_6 : x1.cell? ⟨bx, 6, none⟩ = some (.bool fi) := HO.out.cell 1 rfl 6 rfl
  have z1_7 : x1.cell? ⟨bx, 7, none⟩ = some (.bool rs) := HO.out.cell 1 rfl 7 rfl
  have z1_8 : x1.cell? ⟨bx, 8, none⟩ = some (.int .i64 sq) := HO.out.cell 1 rfl 8 rfl
  go_enter Try.func10, Try.ntmps10
  go_wp2_with fail
  refine (passes_o (x := ⟨pr, he, hp, th, tp, sy, fi, rs, sq⟩) (inn := false) HO.out 0 rfl HI.out HZ.out HML.out HNW.out).mono ?_
  rintro e y1 ⟨⟨b, st2⟩, v, ⟨hP, rfl⟩, rfl, hO, -⟩
  clear hx1 hbx z1_0 z1_1 z1_2 z1_3 z1_4 z1_5 z1_6 z1_7 z1_8
  have HP := Lib.hid hP
  clear hP
  replace HO := Lib.hid (show Own w D y1 [resF f st2, blkR bx (.cells #[.int .i64 pr, .int .i64 he, .int .i64 hp, .int .i64 th, .int .i64 tp, .bool sy, .bool fi, .bool rs, .int .i64 sq] 37)] from hO)
  clear hO
  go_wp2
  go_ret
  exact ⟨(b, st2), _, ⟨HP.out, rfl⟩, rfl, HO.out.take 1, HO.out.size⟩
theorem passes_nil (now : Int) (x : Fl) (b : Bool) (w : World) : Calls Try.prog 28 #[.pointer none, .int .i64 now, flV x, .bool b] w fun e w' => e = .returned (.bool false) ∧ Below w.heap.size w w' := by
  go_enter Try.func28, Try.ntmps28
  go_wp2
  go_ret
  exact ⟨rfl, (Below.refl _ _).alloc (Nat.le_refl _) _⟩
theorem in_nil (now : Int) (x : Fl) (w : World) : Calls Try.prog 11 #[.pointer none, .int .i64 now, flV x] w fun e w' => e = .returned (.bool false) ∧ Below w.heap.size w w' := by
  obtain ⟨pr, he, hp, th, tp, sy, fi, rs, sq⟩ := x
  have HO := Lib.hid (show Own w none0 w [] from Own.nil w none0)
  obtain ⟨x1, hx1⟩ : ∃ y, w.alloc (.cells #[.int .i64 pr, .int .i64 he, .int .i64 hp, .int .i64 th, .int .i64 tp, .bool sy, .bool fi, .bool rs, .int .i64 sq] 37) = y := ⟨_, rfl⟩
  obtain ⟨bx, hbx⟩ : ∃ y, w.heap.size = y := ⟨_, rfl⟩
  have hO := HO.out.alloc (.cells #[.int .i64 pr, .int .i64 he, .int .i64 hp, .int .i64 th, .int .i64 tp, .bool sy, .bool fi, .bool rs, .int .i64 sq] 37)
  rw [hx1, hbx] at hO
  replace HO := Lib.hid (show Own w none0 x1 [blkR bx (.cells #[.int .i64 pr, .int .i64 he, .int .i64 hp, .int .i64 th, .int .i64 tp, .bool sy, .bool fi, .bool rs, .int .i64 sq] 37)] from hO)
  clear hO
  have z0_0 : x1.cell? ⟨bx, 0, none⟩ = some (.int .i64 pr) := HO.out.cell 0 rfl 0 rfl
  have z0_1 : x1.cell? ⟨bx, 1, none⟩ = some (.int .i64 he) := HO.out.cell 0 rfl 1 rfl
  have z0_2 : x1.cell? ⟨bx, 2, none⟩ = some (.int .i64 hp) := HO.out.cell 0 rfl 2 rfl
  have z0_3 : x1.cell? ⟨bx, 3, none⟩ = some (.int .i64 th) := HO.out.cell 0 rfl 3 rfl
  have z0_4 : x1.cell? ⟨bx, 4, none⟩ = some (.int .i64 tp) := HO.out.cell 0 rfl 4 rfl
  have z0_5 : x1.cell? ⟨bx, 5, none⟩ = some (.bool sy) := HO.out.cell 0 rfl 5 rfl
  have z0_6 : x1.cell? ⟨bx, 6, none⟩ = some (.bool fi) := HO.out.cell 0 rfl 6 rfl
  have z0_7 : x1.cell? ⟨bx, 7, none⟩ = some (.bool rs) := HO.out.cell 0 rfl 7 rfl
  have z0_8 : x1.cell? ⟨bx, 8, none⟩ = some (.int .i64 sq) := HO.out.cell 0 rfl 8 rfl
  go_enter Try.func11, Try.ntmps11
  go_wp2_with fail
  refine (o_still HO.out (passes_nil now ⟨pr, he, hp, th, tp, sy, fi, rs, sq⟩ true _)).mono ?_
  rintro e x2 ⟨rfl, hO, -⟩
  replace HO := Lib.hid (show Own w none0 x2 [blkR bx (.cells #[.int .i64 pr, .int .i64 he, .int .i64 hp, .int .i64 th, .int .i64 tp, .bool sy, .bool fi, .bool rs, .int .i64 sq] 37)] from hO)
  clear hO
  clear hx1 hbx z0_0 z0_1 z0_2 z0_3 z0_4 z0_5 z0_6 z0_7 z0_8
  go_wp2
  go_ret
  exact ⟨rfl, HO.out.below⟩
theorem out_nil (now : Int) (x : Fl) (w : World) : Calls Try.prog 10 #[.pointer none, .int .i64 now, flV x] w fun e w' => e = .returned (.bool false) ∧ Below w.heap.size w w' := by
  obtain ⟨pr, he, hp, th, tp, sy, fi, rs, sq⟩ := x
  have HO := Lib.hid (show Own w none0 w [] from Own.nil w none0)
  obtain ⟨x1, hx1⟩ : ∃ y, w.alloc (.cells #[.int .i64 pr, .int .i64 he, .int .i64 hp, .int .i64 th, .int .i64 tp, .bool sy, .bool fi, .bool rs, .int .i64 sq] 37) = y := ⟨_, rfl⟩
  obtain ⟨bx, hbx⟩ : ∃ y, w.heap.size = y := ⟨_, rfl⟩
  have hO := HO.out.alloc (.cells #[.int .i64 pr, .int .i64 he, .int .i64 hp, .int .i64 th, .int .i64 tp, .bool sy, .bool fi, .bool rs, .int .i64 sq] 37)
  rw [hx1, hbx] at hO
  replace HO := Lib.hid (show Own w none0 x1 [blkR bx (.cells #[.int .i64 pr, .int .i64 he, .int .i64 hp, .int .i64 th, .int .i64 tp, .bool sy, .bool fi, .bool rs, .int .i64 sq] 37)] from hO)
  clear hO
  have z0_0 : x1.cell? ⟨bx, 0, none⟩ = some (.int .i64 pr) := HO.out.cell 0 rfl 0 rfl
  have z0_1 : x1.cell? ⟨bx, 1, none⟩ = some (.int .i64 he) := HO.out.cell 0 rfl 1 rfl
  have z0_2 : x1.cell? ⟨bx, 2, none⟩ = some (.int .i64 hp) := HO.out.cell 0 rfl 2 rfl
  have z0_3 : x1.cell? ⟨bx, 3, none⟩ = some (.int .i64 th) := HO.out.cell 0 rfl 3 rfl
  have z0_4 : x1.cell? ⟨bx, 4, none⟩ = some (.int .i64 tp) := HO.out.cell 0 rfl 4 rfl
  have z0_5 : x1.cell? ⟨bx, 5, none⟩ = some (.bool sy) := HO.out.cell 0 rfl 5 rfl
  have z0_6 : x1.cell? ⟨bx, 6, none⟩ = some (.bool fi) := HO.out.cell 0 rfl 6 rfl
  have z0_7 : x1.cell? ⟨bx, 7, none⟩ = some (.bool rs) := HO.out.cell 0 rfl 7 rfl
  have z0_8 : x1.cell? ⟨bx, 8, none⟩ = some (.int .i64 sq) := HO.out.cell 0 rfl 8 rfl
  go_enter Try.func10, Try.ntmps10
  go_wp2_with fail
  refine (o_still HO.out (passes_nil now ⟨pr, he, hp, th, tp, sy, fi, rs, sq⟩ false _)).mono ?_
  rintro e x2 ⟨rfl, hO, -⟩
  replace HO := Lib.hid (show Own w none0 x2 [blkR bx (.cells #[.int .i64 pr, .int .i64 he, .int .i64 hp, .int .i64 th, .int .i64 tp, .bool sy, .bool fi, .bool rs, .int .i64 sq] 37)] from hO)
  clear hO
  clear hx1 hbx z0_0 z0_1 z0_2 z0_3 z0_4 z0_5 z0_6 z0_7 z0_8
  go_wp2
  go_ret
  exact ⟨rfl, HO.out.below⟩
end

end Go.Proofs.Ytjngfhgcifhioaa
