/- Contract of the law's did. Printed by wip/tools/gen22m.py. What the laws of chapter 22 need to know of the flow table. No program in sight. -/
import Derived.Test.YtbolfkojebbejaaGreatDoorBj
import Derived.Test.YtbolfkojebbejaaGreatDoorFlw2
namespace Go.Proofs.YtbolfkojebbejaaGreatDoor
open Go.RowKit Go.Sort
set_option linter.unusedVariables false
set_option maxRecDepth 100000

def DidR (st : FSt) (how now : Int) (x : Fl) (r : Bool) (st' : FSt) : Prop :=
  (pk how 5 < 2 ∧ PassR st now x false r st') ∨ (2 ≤ pk how 5 ∧ pk how 5 < 4 ∧ PassR st now x true r st') ∨ (4 ≤ pk how 5 ∧ r = quoF now x st.m ∧ st' = ⟨st.rl, expF now st.m, st.ins⟩)
def DidO (w0 : World) (D : Nat → Prop) (L : List Res) (i f : Nat) (st : FSt) (how now : Int) (x : Fl) (w : World) (e : Ending) (w' : World) : Prop :=
  ∃ (s : Bool × FSt) (v : Value), (DidR st how now x s.1 s.2 ∧ v = .int .i64 (i01 s.1)) ∧ e = .returned v ∧ Own w0 D w' (L.set i (resF f s.2)) ∧ w.heap.size ≤ w'.heap.size
section
variable {w0 w : World} {D : Nat → Prop} {L : List Res} {f : Nat} {st : FSt}
set_option maxHeartbeats 4000000 in
theorem did_o {T N how now : Int} {x : Fl} (h : Own w0 D w L) (i : Nat) (hi : L[i]? = some (resF f st)) (hW : FW T N st) (hT : T ≤ 1000000000) (hN : N ≤ 1000000000) (hnow : timeB now) (hh : i64B how) :
    Calls Tryz.prog 17 #[.pointer (some ⟨f, 0, none⟩), .int .i64 how, .int .i64 now, flV x] w (DidO w0 D L i f st how now x w) := by
  refine o_oneE (Q := fun (s : Bool × FSt) v => DidR st how now x s.1 s.2 ∧ v = .int .i64 (i01 s.1)) (R' := fun s => resF f s.2) h hi fun D HO0 => ?_
  clear h hi
  have HI := Lib.hid (hW.fi hT hN)
  have HZ := Lib.hid hW.nz
  have HML := Lib.hid (show st.m.length ≤ 1000 from Nat.le_trans hW.len (by decide))
  have HNW := Lib.hid hnow
  have P1 := Lib.hid (fun w => pick_b how 5 w hh (by decide))
  obtain ⟨q1, q2⟩ := pk_bd how 5 (by decide)
  have HDR := Lib.hid (show ∀ n, pk how 5 = n → (n < 2 → ∀ r st', PassR st now x false r st' → DidR st how now x r st') ∧ (2 ≤ n → n < 4 → ∀ r st', PassR st now x true r st' → DidR st how now x r st') ∧ (4 ≤ n → DidR st how now x (quoF now x st.m) ⟨st.rl, expF now st.m, st.ins⟩) from fun n hn => ⟨fun h1 r st' h => .inl ⟨by omega, h⟩, fun h1 h2 r st' h => .inr (.inl ⟨by omega, by omega, h⟩), fun h1 => .inr (.inr ⟨by omega, rfl, rfl⟩)⟩)
  clear hW hnow hh
  generalize pk how 5 = n at *
  obtain ⟨pr, he, hp, th, tp, sy, fi, rs, sq⟩ := x
  have HO := Lib.hid (show Own w D w [resF f st] from HO0)
  clear HO0
  obtain ⟨x1, hx1⟩ : ∃ y, w.alloc (.cells #[.int .i64 pr, .int .i64 he, .int .i64 hp, .int .i64 th, .int .i64 tp, .bool sy, .bool fi, .bool rs, .int .i64 sq] 39) = y := ⟨_, rfl⟩
  obtain ⟨bx, hbx⟩ : ∃ y, w.heap.size = y := ⟨_, rfl⟩
  have hO := HO.out.alloc (.cells #[.int .i64 pr, .int .i64 he, .int .i64 hp, .int .i64 th, .int .i64 tp, .bool sy, .bool fi, .bool rs, .int .i64 sq] 39)
  rw [hx1, hbx] at hO
  replace HO := Lib.hid (show Own w D x1 [resF f st, blkR bx (.cells #[.int .i64 pr, .int .i64 he, .int .i64 hp, .int .i64 th, .int .i64 tp, .bool sy, .bool fi, .bool rs, .int .i64 sq] 39)] from hO)
  clear hO
  have z1_0 : x1.cell? ⟨bx, 0, none⟩ = some (.int .i64 pr) := HO.out.cell 1 rfl 0 rfl
  have z1_1 : x1.cell? ⟨bx, 1, none⟩ = some (.int .i64 he) := HO.out.cell 1 rfl 1 rfl
  have z1_2 : x1.cell? ⟨bx, 2, none⟩ = some (.int .i64 hp) := HO.out.cell 1 rfl 2 rfl
  have z1_3 : x1.cell? ⟨bx, 3, none⟩ = some (.int .i64 th) := HO.out.cell 1 rfl 3 rfl
  have z1_4 : x1.cell? ⟨bx, 4, none⟩ = some (.int .i64 tp) := HO.out.cell 1 rfl 4 rfl
  have z1_5 : x1.cell? ⟨bx, 5, none⟩ = some (.bool sy) := HO.out.cell 1 rfl 5 rfl
  have z1_6 : x1.cell? ⟨bx, 6, none⟩ = some (.bool fi) := HO.out.cell 1 rfl 6 rfl
  have z1_7 : x1.cell? ⟨bx, 7, none⟩ = some (.bool rs) := HO.out.cell 1 rfl 7 rfl
  have z1_8 : x1.cell? ⟨bx, 8, none⟩ = some (.int .i64 sq) := HO.out.cell 1 rfl 8 rfl
  have HFD := Lib.hid (HDR.out n rfl)
  clear HDR
  obtain rfl | rfl | rfl | rfl | rfl : n = 0 ∨ n = 1 ∨ n = 2 ∨ n = 3 ∨ n = 4 := by omega
  · skip
    go_enter Tryz.func17, Tryz.ntmps17
    go_wp2_with fail
    refine (o_still HO.out (P1.out _)).mono ?_
    rintro e x2 ⟨rfl, hO, -⟩
    replace HO := Lib.hid (show Own w D x2 [resF f st, blkR bx (.cells #[.int .i64 pr, .int .i64 he, .int .i64 hp, .int .i64 th, .int .i64 tp, .bool sy, .bool fi, .bool rs, .int .i64 sq] 39)] from hO)
    clear hO
    clear hx1 hbx z1_0 z1_1 z1_2 z1_3 z1_4 z1_5 z1_6 z1_7 z1_8
    have z1_0 : x2.cell? ⟨bx, 0, none⟩ = some (.int .i64 pr) := HO.out.cell 1 rfl 0 rfl
    have z1_1 : x2.cell? ⟨bx, 1, none⟩ = some (.int .i64 he) := HO.out.cell 1 rfl 1 rfl
    have z1_2 : x2.cell? ⟨bx, 2, none⟩ = some (.int .i64 hp) := HO.out.cell 1 rfl 2 rfl
    have z1_3 : x2.cell? ⟨bx, 3, none⟩ = some (.int .i64 th) := HO.out.cell 1 rfl 3 rfl
    have z1_4 : x2.cell? ⟨bx, 4, none⟩ = some (.int .i64 tp) := HO.out.cell 1 rfl 4 rfl
    have z1_5 : x2.cell? ⟨bx, 5, none⟩ = some (.bool sy) := HO.out.cell 1 rfl 5 rfl
    have z1_6 : x2.cell? ⟨bx, 6, none⟩ = some (.bool fi) := HO.out.cell 1 rfl 6 rfl
    have z1_7 : x2.cell? ⟨bx, 7, none⟩ = some (.bool rs) := HO.out.cell 1 rfl 7 rfl
    have z1_8 : x2.cell? ⟨bx, 8, none⟩ = some (.int .i64 sq) := HO.out.cell 1 rfl 8 rfl
    go_wp2_with fail
    refine (out_o (x := ⟨pr, he, hp, th, tp, sy, fi, rs, sq⟩) HO.out 0 rfl HI.out HZ.out HML.out HNW.out).mono ?_
    rintro e y1 ⟨⟨b, st2⟩, v, ⟨hP, rfl⟩, rfl, hO, -⟩
    clear z1_0 z1_1 z1_2 z1_3 z1_4 z1_5 z1_6 z1_7 z1_8
    have HP := Lib.hid (HFD.out.1 (by decide) b st2 hP)
    clear hP
    replace HO := Lib.hid (show Own w D y1 [resF f st2, blkR bx (.cells #[.int .i64 pr, .int .i64 he, .int .i64 hp, .int .i64 th, .int .i64 tp, .bool sy, .bool fi, .bool rs, .int .i64 sq] 39)] from hO)
    clear hO
    cases b with
    | false =>
      go_wp2
      go_ret
      exact ⟨(false, st2), _, ⟨HP.out, rfl⟩, rfl, HO.out.take 1, HO.out.size⟩
    | true =>
      go_wp2
      go_ret
      exact ⟨(true, st2), _, ⟨HP.out, rfl⟩, rfl, HO.out.take 1, HO.out.size⟩
  · skip
    go_enter Tryz.func17, Tryz.ntmps17
    go_wp2_with fail
    refine (o_still HO.out (P1.out _)).mono ?_
    rintro e x2 ⟨rfl, hO, -⟩
    replace HO := Lib.hid (show Own w D x2 [resF f st, blkR bx (.cells #[.int .i64 pr, .int .i64 he, .int .i64 hp, .int .i64 th, .int .i64 tp, .bool sy, .bool fi, .bool rs, .int .i64 sq] 39)] from hO)
    clear hO
    clear hx1 hbx z1_0 z1_1 z1_2 z1_3 z1_4 z1_5 z1_6 z1_7 z1_8
    have z1_0 : x2.cell? ⟨bx, 0, none⟩ = some (.int .i64 pr) := HO.out.cell 1 rfl 0 rfl
    have z1_1 : x2.cell? ⟨bx, 1, none⟩ = some (.int .i64 he) := HO.out.cell 1 rfl 1 rfl
    have z1_2 : x2.cell? ⟨bx, 2, none⟩ = some (.int .i64 hp) := HO.out.cell 1 rfl 2 rfl
    have z1_3 : x2.cell? ⟨bx, 3, none⟩ = some (.int .i64 th) := HO.out.cell 1 rfl 3 rfl
    have z1_4 : x2.cell? ⟨bx, 4, none⟩ = some (.int .i64 tp) := HO.out.cell 1 rfl 4 rfl
    have z1_5 : x2.cell? ⟨bx, 5, none⟩ = some (.bool sy) := HO.out.cell 1 rfl 5 rfl
    have z1_6 : x2.cell? ⟨bx, 6, none⟩ = some (.bool fi) := HO.out.cell 1 rfl 6 rfl
    have z1_7 : x2.cell? ⟨bx, 7, none⟩ = some (.bool rs) := HO.out.cell 1 rfl 7 rfl
    have z1_8 : x2.cell? ⟨bx, 8, none⟩ = some (.int .i64 sq) := HO.out.cell 1 rfl 8 rfl
    go_wp2_with fail
    refine (out_o (x := ⟨pr, he, hp, th, tp, sy, fi, rs, sq⟩) HO.out 0 rfl HI.out HZ.out HML.out HNW.out).mono ?_
    rintro e y1 ⟨⟨b, st2⟩, v, ⟨hP, rfl⟩, rfl, hO, -⟩
    clear z1_0 z1_1 z1_2 z1_3 z1_4 z1_5 z1_6 z1_7 z1_8
    have HP := Lib.hid (HFD.out.1 (by decide) b st2 hP)
    clear hP
    replace HO := Lib.hid (show Own w D y1 [resF f st2, blkR bx (.cells #[.int .i64 pr, .int .i64 he, .int .i64 hp, .int .i64 th, .int .i64 tp, .bool sy, .bool fi, .bool rs, .int .i64 sq] 39)] from hO)
    clear hO
    cases b with
    | false =>
      go_wp2
      go_ret
      exact ⟨(false, st2), _, ⟨HP.out, rfl⟩, rfl, HO.out.take 1, HO.out.size⟩
    | true =>
      go_wp2
      go_ret
      exact ⟨(true, st2), _, ⟨HP.out, rfl⟩, rfl, HO.out.take 1, HO.out.size⟩
  · skip
    go_enter Tryz.func17, Tryz.ntmps17
    go_wp2_with fail
    refine (o_still HO.out (P1.out _)).mono ?_
    rintro e x2 ⟨rfl, hO, -⟩
    replace HO := Lib.hid (show Own w D x2 [resF f st, blkR bx (.cells #[.int .i64 pr, .int .i64 he, .int .i64 hp, .int .i64 th, .int .i64 tp, .bool sy, .bool fi, .bool rs, .int .i64 sq] 39)] from hO)
    clear hO
    clear hx1 hbx z1_0 z1_1 z1_2 z1_3 z1_4 z1_5 z1_6 z1_7 z1_8
    have z1_0 : x2.cell? ⟨bx, 0, none⟩ = some (.int .i64 pr) := HO.out.cell 1 rfl 0 rfl
    have z1_1 : x2.cell? ⟨bx, 1, none⟩ = some (.int .i64 he) := HO.out.cell 1 rfl 1 rfl
    have z1_2 : x2.cell? ⟨bx, 2, none⟩ = some (.int .i64 hp) := HO.out.cell 1 rfl 2 rfl
    have z1_3 : x2.cell? ⟨bx, 3, none⟩ = some (.int .i64 th) := HO.out.cell 1 rfl 3 rfl
    have z1_4 : x2.cell? ⟨bx, 4, none⟩ = some (.int .i64 tp) := HO.out.cell 1 rfl 4 rfl
    have z1_5 : x2.cell? ⟨bx, 5, none⟩ = some (.bool sy) := HO.out.cell 1 rfl 5 rfl
    have z1_6 : x2.cell? ⟨bx, 6, none⟩ = some (.bool fi) := HO.out.cell 1 rfl 6 rfl
    have z1_7 : x2.cell? ⟨bx, 7, none⟩ = some (.bool rs) := HO.out.cell 1 rfl 7 rfl
    have z1_8 : x2.cell? ⟨bx, 8, none⟩ = some (.int .i64 sq) := HO.out.cell 1 rfl 8 rfl
    go_wp2_with fail
    refine (in_o (x := ⟨pr, he, hp, th, tp, sy, fi, rs, sq⟩) HO.out 0 rfl HI.out HZ.out HML.out HNW.out).mono ?_
    rintro e y1 ⟨⟨b, st2⟩, v, ⟨hP, rfl⟩, rfl, hO, -⟩
    clear z1_0 z1_1 z1_2 z1_3 z1_4 z1_5 z1_6 z1_7 z1_8
    have HP := Lib.hid (HFD.out.2.1 (by decide) (by decide) b st2 hP)
    clear hP
    replace HO := Lib.hid (show Own w D y1 [resF f st2, blkR bx (.cells #[.int .i64 pr, .int .i64 he, .int .i64 hp, .int .i64 th, .int .i64 tp, .bool sy, .bool fi, .bool rs, .int .i64 sq] 39)] from hO)
    clear hO
    cases b with
    | false =>
      go_wp2
      go_ret
      exact ⟨(false, st2), _, ⟨HP.out, rfl⟩, rfl, HO.out.take 1, HO.out.size⟩
    | true =>
      go_wp2
      go_ret
      exact ⟨(true, st2), _, ⟨HP.out, rfl⟩, rfl, HO.out.take 1, HO.out.size⟩
  · skip
    go_enter Tryz.func17, Tryz.ntmps17
    go_wp2_with fail
    refine (o_still HO.out (P1.out _)).mono ?_
    rintro e x2 ⟨rfl, hO, -⟩
    replace HO := Lib.hid (show Own w D x2 [resF f st, blkR bx (.cells #[.int .i64 pr, .int .i64 he, .int .i64 hp, .int .i64 th, .int .i64 tp, .bool sy, .bool fi, .bool rs, .int .i64 sq] 39)] from hO)
    clear hO
    clear hx1 hbx z1_0 z1_1 z1_2 z1_3 z1_4 z1_5 z1_6 z1_7 z1_8
    have z1_0 : x2.cell? ⟨bx, 0, none⟩ = some (.int .i64 pr) := HO.out.cell 1 rfl 0 rfl
    have z1_1 : x2.cell? ⟨bx, 1, none⟩ = some (.int .i64 he) := HO.out.cell 1 rfl 1 rfl
    have z1_2 : x2.cell? ⟨bx, 2, none⟩ = some (.int .i64 hp) := HO.out.cell 1 rfl 2 rfl
    have z1_3 : x2.cell? ⟨bx, 3, none⟩ = some (.int .i64 th) := HO.out.cell 1 rfl 3 rfl
    have z1_4 : x2.cell? ⟨bx, 4, none⟩ = some (.int .i64 tp) := HO.out.cell 1 rfl 4 rfl
    have z1_5 : x2.cell? ⟨bx, 5, none⟩ = some (.bool sy) := HO.out.cell 1 rfl 5 rfl
    have z1_6 : x2.cell? ⟨bx, 6, none⟩ = some (.bool fi) := HO.out.cell 1 rfl 6 rfl
    have z1_7 : x2.cell? ⟨bx, 7, none⟩ = some (.bool rs) := HO.out.cell 1 rfl 7 rfl
    have z1_8 : x2.cell? ⟨bx, 8, none⟩ = some (.int .i64 sq) := HO.out.cell 1 rfl 8 rfl
    go_wp2_with fail
    refine (in_o (x := ⟨pr, he, hp, th, tp, sy, fi, rs, sq⟩) HO.out 0 rfl HI.out HZ.out HML.out HNW.out).mono ?_
    rintro e y1 ⟨⟨b, st2⟩, v, ⟨hP, rfl⟩, rfl, hO, -⟩
    clear z1_0 z1_1 z1_2 z1_3 z1_4 z1_5 z1_6 z1_7 z1_8
    have HP := Lib.hid (HFD.out.2.1 (by decide) (by decide) b st2 hP)
    clear hP
    replace HO := Lib.hid (show Own w D y1 [resF f st2, blkR bx (.cells #[.int .i64 pr, .int .i64 he, .int .i64 hp, .int .i64 th, .int .i64 tp, .bool sy, .bool fi, .bool rs, .int .i64 sq] 39)] from hO)
    clear hO
    cases b with
    | false =>
      go_wp2
      go_ret
      exact ⟨(false, st2), _, ⟨HP.out, rfl⟩, rfl, HO.out.take 1, HO.out.size⟩
    | true =>
      go_wp2
      go_ret
      exact ⟨(true, st2), _, ⟨HP.out, rfl⟩, rfl, HO.out.take 1, HO.out.size⟩
  · skip
    go_enter Tryz.func17, Tryz.ntmps17
    go_wp2_with fail
    refine (o_still HO.out (P1.out _)).mono ?_
    rintro e x2 ⟨rfl, hO, -⟩
    replace HO := Lib.hid (show Own w D x2 [resF f st, blkR bx (.cells #[.int .i64 pr, .int .i64 he, .int .i64 hp, .int .i64 th, .int .i64 tp, .bool sy, .bool fi, .bool rs, .int .i64 sq] 39)] from hO)
    clear hO
    clear hx1 hbx z1_0 z1_1 z1_2 z1_3 z1_4 z1_5 z1_6 z1_7 z1_8
    have z1_0 : x2.cell? ⟨bx, 0, none⟩ = some (.int .i64 pr) := HO.out.cell 1 rfl 0 rfl
    have z1_1 : x2.cell? ⟨bx, 1, none⟩ = some (.int .i64 he) := HO.out.cell 1 rfl 1 rfl
    have z1_2 : x2.cell? ⟨bx, 2, none⟩ = some (.int .i64 hp) := HO.out.cell 1 rfl 2 rfl
    have z1_3 : x2.cell? ⟨bx, 3, none⟩ = some (.int .i64 th) := HO.out.cell 1 rfl 3 rfl
    have z1_4 : x2.cell? ⟨bx, 4, none⟩ = some (.int .i64 tp) := HO.out.cell 1 rfl 4 rfl
    have z1_5 : x2.cell? ⟨bx, 5, none⟩ = some (.bool sy) := HO.out.cell 1 rfl 5 rfl
    have z1_6 : x2.cell? ⟨bx, 6, none⟩ = some (.bool fi) := HO.out.cell 1 rfl 6 rfl
    have z1_7 : x2.cell? ⟨bx, 7, none⟩ = some (.bool rs) := HO.out.cell 1 rfl 7 rfl
    have z1_8 : x2.cell? ⟨bx, 8, none⟩ = some (.int .i64 sq) := HO.out.cell 1 rfl 8 rfl
    go_wp2_with fail
    refine (quoted_o (x := ⟨pr, he, hp, th, tp, sy, fi, rs, sq⟩) HO.out 0 rfl HI.out HNW.out).mono ?_
    rintro e y1 ⟨rfl, hO, -⟩
    clear z1_0 z1_1 z1_2 z1_3 z1_4 z1_5 z1_6 z1_7 z1_8
    have HP := Lib.hid (HFD.out.2.2 (by decide))
    replace HO := Lib.hid (show Own w D y1 [resF f ⟨st.rl, expF now st.m, st.ins⟩, blkR bx (.cells #[.int .i64 pr, .int .i64 he, .int .i64 hp, .int .i64 th, .int .i64 tp, .bool sy, .bool fi, .bool rs, .int .i64 sq] 39)] from hO)
    clear hO
    generalize quoF now ⟨pr, he, hp, th, tp, sy, fi, rs, sq⟩ st.m = b at *
    cases b with
    | false =>
      go_wp2
      go_ret
      exact ⟨(false, _), _, ⟨HP.out, rfl⟩, rfl, HO.out.take 1, HO.out.size⟩
    | true =>
      go_wp2
      go_ret
      exact ⟨(true, _), _, ⟨HP.out, rfl⟩, rfl, HO.out.take 1, HO.out.size⟩
end

end Go.Proofs.YtbolfkojebbejaaGreatDoor

namespace Go.Proofs.YtbolfkojebbejaaGreatDoor
open Go.RowKit
set_option linter.unusedVariables false
set_option maxRecDepth 100000

theorem FW.mono {T T' N N' : Int} {st : FSt} (h : FW T N st) (h1 : T ≤ T') (h2 : N ≤ N') : FW T' N' st :=
  ⟨h.nd, fun x hx => by have := h.tm x hx; omega, by have := h.ins; omega, h.rl, h.nz, h.len⟩
end Go.Proofs.YtbolfkojebbejaaGreatDoor
