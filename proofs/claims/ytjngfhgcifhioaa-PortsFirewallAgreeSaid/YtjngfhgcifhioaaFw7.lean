/- Contract of passes. Printed by wip/tools/gen22g.py. -/
import Derived.Test.YtjngfhgcifhioaaFw6
import Derived.Test.YtjngfhgcifhioaaRegM
namespace Go.Proofs.Ytjngfhgcifhioaa
open Go.RowKit Go.Sort
set_option linter.unusedVariables false
set_option maxRecDepth 100000

/-- What passes answers, and what it leaves. -/
def PassR (st : FSt) (now : Int) (x : Fl) (inn : Bool) (r : Bool) (st' : FSt) : Prop :=
  (validF x = false ∧ r = false ∧ st' = { st with m := expF now st.m }) ∨
  (validF x = true ∧ ∃ u, getU (keyF x) (expF now st.m) = some u ∧ r = true ∧ st' = ⟨st.rl, setU (keyF x) ⟨now, u.nu⟩ (expF now st.m), st.ins⟩) ∨
  (validF x = true ∧ getU (keyF x) (expF now st.m) = none ∧ admitF st.rl x inn = false ∧ r = false ∧ st' = { st with m := expF now st.m }) ∨
  (validF x = true ∧ getU (keyF x) (expF now st.m) = none ∧ admitF st.rl x inn = true ∧ r = true ∧ x.rs = true ∧ st' = { st with m := expF now st.m }) ∨
  (validF x = true ∧ getU (keyF x) (expF now st.m) = none ∧ admitF st.rl x inn = true ∧ r = true ∧ x.rs = false ∧ ∃ m1, RoomU (expF now st.m) m1 ∧ st' = ⟨st.rl, setU (keyF x) ⟨now, st.ins + 1⟩ m1, st.ins + 1⟩)
def PassO (w0 : World) (D : Nat → Prop) (L : List Res) (i f : Nat) (st : FSt) (now : Int) (x : Fl) (inn : Bool) (w : World) (e : Ending) (w' : World) : Prop :=
  ∃ (s : Bool × FSt) (v : Value), (PassR st now x inn s.1 s.2 ∧ v = .bool s.1) ∧ e = .returned v ∧ Own w0 D w' (L.set i (resF f s.2)) ∧ w.heap.size ≤ w'.heap.size
theorem fi_exp {st : FSt} (h : FI st) (now : Int) : FI { st with m := expF now st.m } := ⟨keysU_filter _ h.nd, fun x hx => h.tm x (List.mem_filter.1 hx).1, h.ins, h.rl⟩
theorem exp_len (now : Int) (m : List (FK × Us)) : (expF now m).length ≤ m.length := List.length_filter_le _ _
theorem keyOf_l (pr he hp th tp : Int) (sy fi rs : Bool) (sq : Int) (w : World) : Calls Try.prog 42 #[flV ⟨pr, he, hp, th, tp, sy, fi, rs, sq⟩] w fun e w' => e = .returned (.agg #[.int .i64 pr, .int .i64 he, .int .i64 hp, .int .i64 th, .int .i64 tp]) ∧ Below w.heap.size w w' := keyOf_any _ w
theorem validF_r {x : Fl} {b : Bool} (h : validF x = b) (w : World) : Calls Try.prog 41 #[flV x] w fun e w' => e = .returned (.bool b) ∧ Below w.heap.size w w' := h ▸ validF_any x w
theorem admits_r {w : World} {f : Nat} {vr om : Value} {ins : Int} {rl : List Rl} (hb : w.heap[f]? = some (.cells #[vr, om, .int .i64 ins] 77)) (hr : w.ownsRow 0 74 7 vr rl.length (rl.flatMap cRl)) (hl : rl.length ≤ 1000) {x : Fl} {inn b : Bool} (h : admitF rl x inn = b) :
    Calls Try.prog 43 #[.pointer (some ⟨f, 0, none⟩), flV x, .bool inn] w fun e w' => e = .returned (.bool b) ∧ Below w.heap.size w w' := h ▸ admits_any hb hr hl x inn
section
variable {w0 w : World} {D : Nat → Prop} {L : List Res} {f : Nat} {st : FSt}
theorem openF' {L : List Res} (h : Own w0 D w (resF f st :: L)) : ∃ vr om, Own w0 D w (blkF f vr om st.ins :: rowRl vr st.rl :: mapO om st.m :: L) := by
  obtain ⟨⟨vr, om⟩, h⟩ := h.openExC
  exact ⟨vr, om, h.openC⟩
theorem shutF' {L : List Res} {vr om : Value} (h : Own w0 D w (blkF f vr om st.ins :: rowRl vr st.rl :: mapO om st.m :: L)) : Own w0 D w (resF f st :: L) := Own.shutExC (f := fun vs : Value × Value => sepR [blkF f vs.1 vs.2 st.ins, rowRl vs.1 st.rl, mapO vs.2 st.m]) (vr, om) (Own.shutC (Rs := [blkF f vr om st.ins, rowRl vr st.rl, mapO om st.m]) h)
set_option maxRecDepth 100000 in
set_option maxHeartbeats 8000000 in
theorem passes_o {now : Int} {x : Fl} {inn : Bool} (h : Own w0 D w L) (i : Nat) (hi : L[i]? = some (resF f st)) (hI : FI st) (hz : ∀ x ∈ st.m, x.1 ≠ ⟨0, 0, 0, 0, 0⟩) (hml : st.m.length ≤ 1000) (hnow : timeB now) :
    Calls Try.prog 28 #[.pointer (some ⟨f, 0, none⟩), .int .i64 now, flV x, .bool inn] w (PassO w0 D L i f st now x inn w) := by
  refine o_oneE (Q := fun (s : Bool × FSt) v => PassR st now x inn s.1 s.2 ∧ v = .bool s.1) (R' := fun s => resF f s.2) h hi fun D HO0 => ?_
  clear h hi
  have HI := Lib.hid hI
  have HI1 := Lib.hid (fi_exp hI now)
  have HZ1 := Lib.hid (show ∀ x ∈ expF now st.m, x.1 ≠ ⟨0, 0, 0, 0, 0⟩ from fun x hx => hz x (List.mem_filter.1 hx).1)
  have HML := Lib.hid (Nat.le_trans (exp_len now st.m) hml)
  have HNW := Lib.hid hnow
  have HRL := Lib.hid hI.rl
  clear hI hz hml hnow
  obtain ⟨rl, m, ins⟩ := st
  obtain ⟨m1, hm1⟩ : ∃ m1, expF now m = m1 := ⟨_, rfl⟩
  have HM1 := Lib.hid hm1
  simp only [hm1] at HI1 HZ1 HML
  obtain ⟨pr, he, hp, th, tp, sy, fi, rs, sq⟩ := x
  have HPI := Lib.hid (show validF ⟨pr, he, hp, th, tp, sy, fi, rs, sq⟩ = false → PassR ⟨rl, m, ins⟩ now ⟨pr, he, hp, th, tp, sy, fi, rs, sq⟩ inn false ⟨rl, m1, ins⟩ from fun h => .inl ⟨h, rfl, by rw [← hm1]⟩)
  have HPK := Lib.hid (show validF ⟨pr, he, hp, th, tp, sy, fi, rs, sq⟩ = true → ∀ u, getU ⟨pr, he, hp, th, tp⟩ m1 = some u → PassR ⟨rl, m, ins⟩ now ⟨pr, he, hp, th, tp, sy, fi, rs, sq⟩ inn true ⟨rl, setU ⟨pr, he, hp, th, tp⟩ ⟨now, u.nu⟩ m1, ins⟩ from fun h u hu => .inr (.inl ⟨h, u, by simp only [hm1]; exact hu, rfl, by simp only [hm1]; rfl⟩))
  have HPN := Lib.hid (show validF ⟨pr, he, hp, th, tp, sy, fi, rs, sq⟩ = true → getU ⟨pr, he, hp, th, tp⟩ m1 = none → admitF rl ⟨pr, he, hp, th, tp, sy, fi, rs, sq⟩ inn = false → PassR ⟨rl, m, ins⟩ now ⟨pr, he, hp, th, tp, sy, fi, rs, sq⟩ inn false ⟨rl, m1, ins⟩ from fun h hu ha => .inr (.inr (.inl ⟨h, by simp only [hm1]; exact hu, ha, rfl, by rw [← hm1]⟩)))
  have HPR := Lib.hid (show validF ⟨pr, he, hp, th, tp, sy, fi, rs, sq⟩ = true → getU ⟨pr, he, hp, th, tp⟩ m1 = none → admitF rl ⟨pr, he, hp, th, tp, sy, fi, rs, sq⟩ inn = true → rs = true → PassR ⟨rl, m, ins⟩ now ⟨pr, he, hp, th, tp, sy, fi, rs, sq⟩ inn true ⟨rl, m1, ins⟩ from fun h hu ha hr => .inr (.inr (.inr (.inl ⟨h, by simp only [hm1]; exact hu, ha, rfl, hr, by rw [← hm1]⟩))))
  have HPS := Lib.hid (show validF ⟨pr, he, hp, th, tp, sy, fi, rs, sq⟩ = true → getU ⟨pr, he, hp, th, tp⟩ m1 = none → admitF rl ⟨pr, he, hp, th, tp, sy, fi, rs, sq⟩ inn = true → rs = false → ∀ m2, RoomU m1 m2 → PassR ⟨rl, m, ins⟩ now ⟨pr, he, hp, th, tp, sy, fi, rs, sq⟩ inn true ⟨rl, setU ⟨pr, he, hp, th, tp⟩ ⟨now, ins + 1⟩ m2, ins + 1⟩ from fun h hu ha hr m2 hm2 => .inr (.inr (.inr (.inr ⟨h, by simp only [hm1]; exact hu, ha, rfl, hr, m2, by simp only [hm1]; exact hm2, rfl⟩))))
  clear hm1
  have HO := Lib.hid (show Own w D w [resF f ⟨rl, m, ins⟩] from HO0)
  clear HO0
  obtain ⟨x1, hx1⟩ : ∃ y, w.alloc (.cells #[.int .i64 pr, .int .i64 he, .int .i64 hp, .int .i64 th, .int .i64 tp, .bool sy, .bool fi, .bool rs, .int .i64 sq] 37) = y := ⟨_, rfl⟩
  obtain ⟨bx, hbx⟩ : ∃ y, w.heap.size = y := ⟨_, rfl⟩
  have hO := HO.out.alloc (.cells #[.int .i64 pr, .int .i64 he, .int .i64 hp, .int .i64 th, .int .i64 tp, .bool sy, .bool fi, .bool rs, .int .i64 sq] 37)
  rw [hx1, hbx] at hO
  replace HO := Lib.hid (show Own w D x1 [resF f ⟨rl, m, ins⟩, blkR bx (.cells #[.int .i64 pr, .int .i64 he, .int .i64 hp, .int .i64 th, .int .i64 tp, .bool sy, .bool fi, .bool rs, .int .i64 sq] 37)] from hO)
  clear hO
  go_enter Try.func28, Try.ntmps28
  go_wp2_with fail
  have hex := expire_o HO.out 0 rfl HI.out HNW.out
  rw [show ({ (⟨rl, m, ins⟩ : FSt) with m := expF now (⟨rl, m, ins⟩ : FSt).m } : FSt) = ⟨rl, m1, ins⟩ by rw [← HM1.out]] at hex
  refine hex.mono ?_
  rintro e y1 ⟨rfl, hO, -⟩
  replace HO := Lib.hid (show Own w D y1 [resF f ⟨rl, m1, ins⟩, blkR bx (.cells #[.int .i64 pr, .int .i64 he, .int .i64 hp, .int .i64 th, .int .i64 tp, .bool sy, .bool fi, .bool rs, .int .i64 sq] 37)] from hO)
  clear hO hex
  clear hx1 hbx
  have z1_0 : y1.cell? ⟨bx, 0, none⟩ = some (.int .i64 pr) := HO.out.cell 1 rfl 0 rfl
  have z1_1 : y1.cell? ⟨bx, 1, none⟩ = some (.int .i64 he) := HO.out.cell 1 rfl 1 rfl
  have z1_2 : y1.cell? ⟨bx, 2, none⟩ = some (.int .i64 hp) := HO.out.cell 1 rfl 2 rfl
  have z1_3 : y1.cell? ⟨bx, 3, none⟩ = some (.int .i64 th) := HO.out.cell 1 rfl 3 rfl
  have z1_4 : y1.cell? ⟨bx, 4, none⟩ = some (.int .i64 tp) := HO.out.cell 1 rfl 4 rfl
  have z1_5 : y1.cell? ⟨bx, 5, none⟩ = some (.bool sy) := HO.out.cell 1 rfl 5 rfl
  have z1_6 : y1.cell? ⟨bx, 6, none⟩ = some (.bool fi) := HO.out.cell 1 rfl 6 rfl
  have z1_7 : y1.cell? ⟨bx, 7, none⟩ = some (.bool rs) := HO.out.cell 1 rfl 7 rfl
  have z1_8 : y1.cell? ⟨bx, 8, none⟩ = some (.int .i64 sq) := HO.out.cell 1 rfl 8 rfl
  cases hv : validF ⟨pr, he, hp, th, tp, sy, fi, rs, sq⟩ with
  | false =>
    have HPF := Lib.hid (HPI.out hv)
    go_wp2_with fail
    refine (o_still HO.out (validF_r hv _)).mono ?_
    rintro e x11 ⟨rfl, hO, -⟩
    replace HO := Lib.hid (show Own w D x11 [resF f ⟨rl, m1, ins⟩, blkR bx (.cells #[.int .i64 pr, .int .i64 he, .int .i64 hp, .int .i64 th, .int .i64 tp, .bool sy, .bool fi, .bool rs, .int .i64 sq] 37)] from hO)
    clear hO
    clear z1_0 z1_1 z1_2 z1_3 z1_4 z1_5 z1_6 z1_7 z1_8
    go_wp2
    go_ret
    exact ⟨(false, ⟨rl, m1, ins⟩), _, ⟨HPF.out, rfl⟩, rfl, HO.out.take 1, HO.out.size⟩
  | true =>
    have HV := Lib.hid hv
    go_wp2_with fail
    refine (o_still HO.out (validF_r hv _)).mono ?_
    rintro e x11 ⟨rfl, hO, -⟩
    replace HO := Lib.hid (show Own w D x11 [resF f ⟨rl, m1, ins⟩, blkR bx (.cells #[.int .i64 pr, .int .i64 he, .int .i64 hp, .int .i64 th, .int .i64 tp, .bool sy, .bool fi, .bool rs, .int .i64 sq] 37)] from hO)
    clear hO
    clear z1_0 z1_1 z1_2 z1_3 z1_4 z1_5 z1_6 z1_7 z1_8
    clear hv
    have z1_0 : x11.cell? ⟨bx, 0, none⟩ = some (.int .i64 pr) := HO.out.cell 1 rfl 0 rfl
    have z1_1 : x11.cell? ⟨bx, 1, none⟩ = some (.int .i64 he) := HO.out.cell 1 rfl 1 rfl
    have z1_2 : x11.cell? ⟨bx, 2, none⟩ = some (.int .i64 hp) := HO.out.cell 1 rfl 2 rfl
    have z1_3 : x11.cell? ⟨bx, 3, none⟩ = some (.int .i64 th) := HO.out.cell 1 rfl 3 rfl
    have z1_4 : x11.cell? ⟨bx, 4, none⟩ = some (.int .i64 tp) := HO.out.cell 1 rfl 4 rfl
    have z1_5 : x11.cell? ⟨bx, 5, none⟩ = some (.bool sy) := HO.out.cell 1 rfl 5 rfl
    have z1_6 : x11.cell? ⟨bx, 6, none⟩ = some (.bool fi) := HO.out.cell 1 rfl 6 rfl
    have z1_7 : x11.cell? ⟨bx, 7, none⟩ = some (.bool rs) := HO.out.cell 1 rfl 7 rfl
    have z1_8 : x11.cell? ⟨bx, 8, none⟩ = some (.int .i64 sq) := HO.out.cell 1 rfl 8 rfl
    go_wp2_with fail
    refine (o_still HO.out (keyOf_l pr he hp th tp sy fi rs sq _)).mono ?_
    rintro e x12 ⟨rfl, hO, -⟩
    replace HO := Lib.hid (show Own w D x12 [resF f ⟨rl, m1, ins⟩, blkR bx (.cells #[.int .i64 pr, .int .i64 he, .int .i64 hp, .int .i64 th, .int .i64 tp, .bool sy, .bool fi, .bool rs, .int .i64 sq] 37)] from hO)
    clear hO
    clear z1_0 z1_1 z1_2 z1_3 z1_4 z1_5 z1_6 z1_7 z1_8
    obtain ⟨vr, om, hO⟩ := openF' HO.out
    replace HO := Lib.hid (show Own w D x12 [blkF f vr om ins, rowRl vr rl, mapO om m1, blkR bx (.cells #[.int .i64 pr, .int .i64 he, .int .i64 hp, .int .i64 th, .int .i64 tp, .bool sy, .bool fi, .bool rs, .int .i64 sq] 37)] from hO)
    clear hO
    obtain ⟨x13, hx13⟩ : ∃ y, x12.alloc (.cells #[.int .i64 pr, .int .i64 he, .int .i64 hp, .int .i64 th, .int .i64 tp] 105) = y := ⟨_, rfl⟩
    obtain ⟨bk, hbk⟩ : ∃ y, x12.heap.size = y := ⟨_, rfl⟩
    have hO := HO.out.alloc (.cells #[.int .i64 pr, .int .i64 he, .int .i64 hp, .int .i64 th, .int .i64 tp] 105)
    rw [hx13, hbk] at hO
    replace HO := Lib.hid (show Own w D x13 [blkF f vr om ins, rowRl vr rl, mapO om m1, blkR bx (.cells #[.int .i64 pr, .int .i64 he, .int .i64 hp, .int .i64 th, .int .i64 tp, .bool sy, .bool fi, .bool rs, .int .i64 sq] 37), blkR bk (.cells #[.int .i64 pr, .int .i64 he, .int .i64 hp, .int .i64 th, .int .i64 tp] 105)] from hO)
    clear hO
    have HMO := Lib.hid (mapO_open HO.out 2 rfl)
    go_wp2
    clear hx13 hbk
    rcases HMO.out with ⟨hom, hm0⟩ | ⟨b, hom, hO⟩
    · subst hom
      have HGU := Lib.hid (show getU ⟨pr, he, hp, th, tp⟩ m1 = none by rw [hm0]; rfl)
      clear HMO hm0
      obtain ⟨ula, hula⟩ : ∃ n : Int, 0 = n := ⟨_, rfl⟩
      obtain ⟨unu, hunu⟩ : ∃ n : Int, 0 = n := ⟨_, rfl⟩
      generalize hΓ : ghN x13 (.cells #[.int .i64 0, .int .i64 0] 108) (.cells #[.int .i64 ula, .int .i64 unu] 108) = Γ
      have HST := Lib.hid (show Γ.inv [] x13 by rw [← hΓ]; exact ⟨Below.refl _ _, trivial⟩)
      have HWB := Lib.hid (show ∀ q : Γ.Wd, Below x13.heap.size x13 q.w by rw [← hΓ]; exact fun q => q.h.1)
      have hl : ∀ q : Γ.Wd, (Instr.lookup 75 (.map none) (.agg #[.int .i64 pr, .int .i64 he, .int .i64 hp, .int .i64 th, .int .i64 tp]) true).run Try.prog q.w = .ok (.tuple #[.agg #[.int .i64 ula, .int .i64 unu], .bool false]) q.w := by
        subst hula hunu
        exact fun q => keyK.lookup_nil Try.underlying75 (zeroU _) ⟨pr, he, hp, th, tp⟩ true
      have c1 : ∀ q : Γ.Wd, q.w.cell? ⟨f, 1, none⟩ = some (.map none) := fun q => keep (HWB.out q) (HO.out.cell 0 rfl 1 rfl)
      have e0 : ∀ q : Γ.Wd, q.w.cell? ⟨bk, 0, none⟩ = some (.int .i64 pr) := fun q => keep (HWB.out q) (HO.out.cell 4 rfl 0 rfl)
      have e1 : ∀ q : Γ.Wd, q.w.cell? ⟨bk, 1, none⟩ = some (.int .i64 he) := fun q => keep (HWB.out q) (HO.out.cell 4 rfl 1 rfl)
      have e2 : ∀ q : Γ.Wd, q.w.cell? ⟨bk, 2, none⟩ = some (.int .i64 hp) := fun q => keep (HWB.out q) (HO.out.cell 4 rfl 2 rfl)
      have e3 : ∀ q : Γ.Wd, q.w.cell? ⟨bk, 3, none⟩ = some (.int .i64 th) := fun q => keep (HWB.out q) (HO.out.cell 4 rfl 3 rfl)
      have e4 : ∀ q : Γ.Wd, q.w.cell? ⟨bk, 4, none⟩ = some (.int .i64 tp) := fun q => keep (HWB.out q) (HO.out.cell 4 rfl 4 rfl)
      have HΓ := Lib.hid hΓ
      clear hΓ
      have ne : Nonempty Γ.Wd := ⟨⟨[], x13, HST.out⟩⟩
      refine wp_region_M Γ 11 [9, 10] (by kernel_rfl) (by kernel_rfl) (by kernel_rfl) (by kernel_rfl) HST.out ?_
      simp only [List.take, List.drop]
      iterate 9 (first | (refine wpM_want (by kernel_rfl) (by kernel_rfl) rfl rfl ?_; intro K hK; go_big_quiet_op; go_big_quiet_on) | (refine wpM_is (by kernel_rfl) (by kernel_rfl) rfl _ (fun _ w _ => rfl) ?_; simp only [Act.put, List.setIfInBounds_toArray, List.set_cons_succ, List.set_cons_zero]))
      refine wpM_chainX 0 (gnth 0) (gnth_lasts _ _) (by kernel_rfl) (by kernel_rfl) (fun a' g hg hgl he => ?_) (fun d hd => ?_)
      · have hmv := ghN_alloc (by rw [HΓ.out]; exact hg) hgl
        rw [HΓ.out] at hmv
        have hv0 := List.eq_nil_of_length_eq_zero hgl
        simp [go_sem]
        exact ⟨_, rfl, hmv, by rw [hv0]; rfl⟩
      cases hd
      simp only [List.nil_append]
      refine wpM_store 1 (by kernel_rfl) rfl rfl (by kernel_rfl) (by kernel_rfl) (fun a' g hg hgl he => ?_) ?_
      · obtain ⟨v0, hv0⟩ := List.length_eq_one_iff.1 hgl
        obtain ⟨h10, h29, _⟩ := he
        have k10 : g.vs[0]? = some (a'.eval (.tmp 10)) := h10
        have k29 : a'.eval (.tmp 29) = .agg #[.int .i64 ula, .int .i64 unu] := h29
        rw [hv0] at k10
        have k11 : v0 = a'.eval (.tmp 10) := by simpa using k10
        clear h10 h29 k10
        have hgi : (ghN x13 (.cells #[.int .i64 0, .int .i64 0] 108) (.cells #[.int .i64 ula, .int .i64 unu] 108)).inv [v0] g.w := by rw [HΓ.out, ← hv0]; exact hg
        obtain ⟨b', e'', hst2⟩ := ghN_set2 hgi
        obtain ⟨q0, q1, z0, z1, hmv⟩ := hst2 (.int .i64 ula) (.int .i64 unu) rfl
        rw [HΓ.out, ← hv0] at hmv
        have t10 : a'.tmps.getD 10 undef = .pointer (some ⟨b', 0, none⟩) := k11.symm.trans e''
        have t29 : a'.tmps.getD 29 undef = .agg #[.int .i64 ula, .int .i64 unu] := k29
        simp [go_sem, t10, t29, q0, q1, z0, z1]
        exact ⟨_, hmv⟩
      refine wpM_nil (by kernel_rfl) (by simp) ?_
      rintro ⟨vs, w5⟩ hg hgl
      rw [← HΓ.out] at hg
      simp only [gexAll, List.drop]
      rintro u10 g10
      match vs, hgl, hg, g10 with
      | [v0, v1], _, ⟨hb5, bb, e0', hge, hbb⟩, g10 =>
      obtain rfl : v0 = u10 := by simpa [gnth] using g10
      subst e0'
      simp only [Act.put, List.setIfInBounds_toArray, List.set_cons_succ, List.set_cons_zero]
      have hO := HO.out.push (R := blkR bb (.cells #[.int .i64 ula, .int .i64 unu] 108)) (F := fun z => z = bb) ⟨fun _ => Iff.rfl, hbb⟩ (fun z hz => hz ▸ hge) hb5
      clear c1 e0 e1 e2 e3 e4 hl hb5 hge hbb ne HST HWB HΓ g10
      replace HO := Lib.hid (show Own w D w5 [blkF f vr (.map none) ins, rowRl vr rl, mapO (.map none) m1, blkR bx (.cells #[.int .i64 pr, .int .i64 he, .int .i64 hp, .int .i64 th, .int .i64 tp, .bool sy, .bool fi, .bool rs, .int .i64 sq] 37), blkR bk (.cells #[.int .i64 pr, .int .i64 he, .int .i64 hp, .int .i64 th, .int .i64 tp] 105), blkR bb (.cells #[.int .i64 ula, .int .i64 unu] 108)] from hO)
      clear hO
      have z3_0 : w5.cell? ⟨bx, 0, none⟩ = some (.int .i64 pr) := HO.out.cell 3 rfl 0 rfl
      have z3_1 : w5.cell? ⟨bx, 1, none⟩ = some (.int .i64 he) := HO.out.cell 3 rfl 1 rfl
      have z3_2 : w5.cell? ⟨bx, 2, none⟩ = some (.int .i64 hp) := HO.out.cell 3 rfl 2 rfl
      have z3_3 : w5.cell? ⟨bx, 3, none⟩ = some (.int .i64 th) := HO.out.cell 3 rfl 3 rfl
      have z3_4 : w5.cell? ⟨bx, 4, none⟩ = some (.int .i64 tp) := HO.out.cell 3 rfl 4 rfl
      have z3_5 : w5.cell? ⟨bx, 5, none⟩ = some (.bool sy) := HO.out.cell 3 rfl 5 rfl
      have z3_6 : w5.cell? ⟨bx, 6, none⟩ = some (.bool fi) := HO.out.cell 3 rfl 6 rfl
      have z3_7 : w5.cell? ⟨bx, 7, none⟩ = some (.bool rs) := HO.out.cell 3 rfl 7 rfl
      have z3_8 : w5.cell? ⟨bx, 8, none⟩ = some (.int .i64 sq) := HO.out.cell 3 rfl 8 rfl
      cases ha : admitF rl ⟨pr, he, hp, th, tp, sy, fi, rs, sq⟩ inn with
      | false =>
        have HPF := Lib.hid (HPN.out HV.out HGU.out ha)
        go_wp2_with fail
        refine (o_still HO.out (admits_r (HO.out.blk 0 rfl) (HO.out.row 1 rfl) HRL.out ha)).mono ?_
        rintro e x14 ⟨rfl, hO, -⟩
        replace HO := Lib.hid (show Own w D x14 [blkF f vr (.map none) ins, rowRl vr rl, mapO (.map none) m1, blkR bx (.cells #[.int .i64 pr, .int .i64 he, .int .i64 hp, .int .i64 th, .int .i64 tp, .bool sy, .bool fi, .bool rs, .int .i64 sq] 37), blkR bk (.cells #[.int .i64 pr, .int .i64 he, .int .i64 hp, .int .i64 th, .int .i64 tp] 105), blkR bb (.cells #[.int .i64 ula, .int .i64 unu] 108)] from hO)
        clear hO
        clear z3_0 z3_1 z3_2 z3_3 z3_4 z3_5 z3_6 z3_7 z3_8
        have hO := shutF' (st := ⟨rl, m1, ins⟩) HO.out
        replace HO := Lib.hid (show Own w D x14 [resF f ⟨rl, m1, ins⟩, blkR bx (.cells #[.int .i64 pr, .int .i64 he, .int .i64 hp, .int .i64 th, .int .i64 tp, .bool sy, .bool fi, .bool rs, .int .i64 sq] 37), blkR bk (.cells #[.int .i64 pr, .int .i64 he, .int .i64 hp, .int .i64 th, .int .i64 tp] 105), blkR bb (.cells #[.int .i64 ula, .int .i64 unu] 108)] from hO)
        clear hO
        go_wp2
        go_ret
        exact ⟨(false, ⟨rl, m1, ins⟩), _, ⟨HPF.out, rfl⟩, rfl, HO.out.take 1, HO.out.size⟩
      | true =>
        have HA := Lib.hid ha
        go_wp2_with fail
        refine (o_still HO.out (admits_r (HO.out.blk 0 rfl) (HO.out.row 1 rfl) HRL.out ha)).mono ?_
        rintro e x14 ⟨rfl, hO, -⟩
        replace HO := Lib.hid (show Own w D x14 [blkF f vr (.map none) ins, rowRl vr rl, mapO (.map none) m1, blkR bx (.cells #[.int .i64 pr, .int .i64 he, .int .i64 hp, .int .i64 th, .int .i64 tp, .bool sy, .bool fi, .bool rs, .int .i64 sq] 37), blkR bk (.cells #[.int .i64 pr, .int .i64 he, .int .i64 hp, .int .i64 th, .int .i64 tp] 105), blkR bb (.cells #[.int .i64 ula, .int .i64 unu] 108)] from hO)
        clear hO
        clear z3_0 z3_1 z3_2 z3_3 z3_4 z3_5 z3_6 z3_7 z3_8
        clear ha
        have hO := shutF' (st := ⟨rl, m1, ins⟩) HO.out
        replace HO := Lib.hid (show Own w D x14 [resF f ⟨rl, m1, ins⟩, blkR bx (.cells #[.int .i64 pr, .int .i64 he, .int .i64 hp, .int .i64 th, .int .i64 tp, .bool sy, .bool fi, .bool rs, .int .i64 sq] 37), blkR bk (.cells #[.int .i64 pr, .int .i64 he, .int .i64 hp, .int .i64 th, .int .i64 tp] 105), blkR bb (.cells #[.int .i64 ula, .int .i64 unu] 108)] from hO)
        clear hO
        have z1_0 : x14.cell? ⟨bx, 0, none⟩ = some (.int .i64 pr) := HO.out.cell 1 rfl 0 rfl
        have z1_1 : x14.cell? ⟨bx, 1, none⟩ = some (.int .i64 he) := HO.out.cell 1 rfl 1 rfl
        have z1_2 : x14.cell? ⟨bx, 2, none⟩ = some (.int .i64 hp) := HO.out.cell 1 rfl 2 rfl
        have z1_3 : x14.cell? ⟨bx, 3, none⟩ = some (.int .i64 th) := HO.out.cell 1 rfl 3 rfl
        have z1_4 : x14.cell? ⟨bx, 4, none⟩ = some (.int .i64 tp) := HO.out.cell 1 rfl 4 rfl
        have z1_5 : x14.cell? ⟨bx, 5, none⟩ = some (.bool sy) := HO.out.cell 1 rfl 5 rfl
        have z1_6 : x14.cell? ⟨bx, 6, none⟩ = some (.bool fi) := HO.out.cell 1 rfl 6 rfl
        have z1_7 : x14.cell? ⟨bx, 7, none⟩ = some (.bool rs) := HO.out.cell 1 rfl 7 rfl
        have z1_8 : x14.cell? ⟨bx, 8, none⟩ = some (.int .i64 sq) := HO.out.cell 1 rfl 8 rfl
        have z2_0 : x14.cell? ⟨bk, 0, none⟩ = some (.int .i64 pr) := HO.out.cell 2 rfl 0 rfl
        have z2_1 : x14.cell? ⟨bk, 1, none⟩ = some (.int .i64 he) := HO.out.cell 2 rfl 1 rfl
        have z2_2 : x14.cell? ⟨bk, 2, none⟩ = some (.int .i64 hp) := HO.out.cell 2 rfl 2 rfl
        have z2_3 : x14.cell? ⟨bk, 3, none⟩ = some (.int .i64 th) := HO.out.cell 2 rfl 3 rfl
        have z2_4 : x14.cell? ⟨bk, 4, none⟩ = some (.int .i64 tp) := HO.out.cell 2 rfl 4 rfl
        cases rs with
        | true =>
          have HPF := Lib.hid (HPR.out HV.out HGU.out HA.out rfl)
          go_wp2
          go_ret
          exact ⟨(true, ⟨rl, m1, ins⟩), _, ⟨HPF.out, rfl⟩, rfl, HO.out.take 1, HO.out.size⟩
        | false =>
          have HPF := Lib.hid (HPS.out HV.out HGU.out HA.out rfl)
          go_wp2_with fail
          refine (insert_o (k := ⟨pr, he, hp, th, tp⟩) HO.out 0 rfl HI1.out HZ1.out HML.out).mono ?_
          rintro e y9 ⟨m2, v2, ⟨hroom, rfl⟩, rfl, hO, -⟩
          have HRM := Lib.hid hroom
          clear hroom
          replace HO := Lib.hid (show Own w D y9 [resF f ⟨rl, setU ⟨pr, he, hp, th, tp⟩ ⟨now, ins + 1⟩ m2, ins + 1⟩, blkR bx (.cells #[.int .i64 pr, .int .i64 he, .int .i64 hp, .int .i64 th, .int .i64 tp, .bool sy, .bool fi, .bool false, .int .i64 sq] 37), blkR bk (.cells #[.int .i64 pr, .int .i64 he, .int .i64 hp, .int .i64 th, .int .i64 tp] 105), blkR bb (.cells #[.int .i64 ula, .int .i64 unu] 108)] from hO)
          clear hO
          clear z1_0 z1_1 z1_2 z1_3 z1_4 z1_5 z1_6 z1_7 z1_8 z2_0 z2_1 z2_2 z2_3 z2_4
          go_wp2
          go_ret
          exact ⟨(true, ⟨rl, setU ⟨pr, he, hp, th, tp⟩ ⟨now, ins + 1⟩ m2, ins + 1⟩), _, ⟨HPF.out m2 HRM.out, rfl⟩, rfl, HO.out.take 1, HO.out.size⟩
    · subst hom
      clear HMO
      replace HO := Lib.hid (show Own w D x13 [blkF f vr (.map (some b)) ins, rowRl vr rl, mapR encK b (mapU m1), blkR bx (.cells #[.int .i64 pr, .int .i64 he, .int .i64 hp, .int .i64 th, .int .i64 tp, .bool sy, .bool fi, .bool rs, .int .i64 sq] 37), blkR bk (.cells #[.int .i64 pr, .int .i64 he, .int .i64 hp, .int .i64 th, .int .i64 tp] 105)] from hO)
      clear hO
      have hlk : ∀ w : World, Below x13.heap.size x13 w → (Instr.lookup 75 (.map (some b)) (encK ⟨pr, he, hp, th, tp⟩) true).run Try.prog w = .ok (lookV (.agg #[.int .i64 0, .int .i64 0]) true ((getU ⟨pr, he, hp, th, tp⟩ m1).map valU)) w := fun w hb => by
        have := keyK.lookup Try.underlying75 (zeroU _) ((HO.out.mapB 2 rfl).stay hb) ⟨pr, he, hp, th, tp⟩ true
        rw [mapU_get] at this
        exact this
      cases hgu : getU ⟨pr, he, hp, th, tp⟩ m1 with
      | none =>
        have HGU := Lib.hid hgu
        rw [hgu] at hlk
        clear hgu
        obtain ⟨ula, hula⟩ : ∃ n : Int, 0 = n := ⟨_, rfl⟩
        obtain ⟨unu, hunu⟩ : ∃ n : Int, 0 = n := ⟨_, rfl⟩
        generalize hΓ : ghN x13 (.cells #[.int .i64 0, .int .i64 0] 108) (.cells #[.int .i64 ula, .int .i64 unu] 108) = Γ
        have HST := Lib.hid (show Γ.inv [] x13 by rw [← hΓ]; exact ⟨Below.refl _ _, trivial⟩)
        have HWB := Lib.hid (show ∀ q : Γ.Wd, Below x13.heap.size x13 q.w by rw [← hΓ]; exact fun q => q.h.1)
        have hl : ∀ q : Γ.Wd, (Instr.lookup 75 (.map (some b)) (.agg #[.int .i64 pr, .int .i64 he, .int .i64 hp, .int .i64 th, .int .i64 tp]) true).run Try.prog q.w = .ok (.tuple #[.agg #[.int .i64 ula, .int .i64 unu], .bool false]) q.w := by
          subst hula hunu
          exact fun q => hlk q.w (HWB.out q)
        have c1 : ∀ q : Γ.Wd, q.w.cell? ⟨f, 1, none⟩ = some (.map (some b)) := fun q => keep (HWB.out q) (HO.out.cell 0 rfl 1 rfl)
        have e0 : ∀ q : Γ.Wd, q.w.cell? ⟨bk, 0, none⟩ = some (.int .i64 pr) := fun q => keep (HWB.out q) (HO.out.cell 4 rfl 0 rfl)
        have e1 : ∀ q : Γ.Wd, q.w.cell? ⟨bk, 1, none⟩ = some (.int .i64 he) := fun q => keep (HWB.out q) (HO.out.cell 4 rfl 1 rfl)
        have e2 : ∀ q : Γ.Wd, q.w.cell? ⟨bk, 2, none⟩ = some (.int .i64 hp) := fun q => keep (HWB.out q) (HO.out.cell 4 rfl 2 rfl)
        have e3 : ∀ q : Γ.Wd, q.w.cell? ⟨bk, 3, none⟩ = some (.int .i64 th) := fun q => keep (HWB.out q) (HO.out.cell 4 rfl 3 rfl)
        have e4 : ∀ q : Γ.Wd, q.w.cell? ⟨bk, 4, none⟩ = some (.int .i64 tp) := fun q => keep (HWB.out q) (HO.out.cell 4 rfl 4 rfl)
        have HΓ := Lib.hid hΓ
        clear hΓ
        have ne : Nonempty Γ.Wd := ⟨⟨[], x13, HST.out⟩⟩
        refine wp_region_M Γ 11 [9, 10] (by kernel_rfl) (by kernel_rfl) (by kernel_rfl) (by kernel_rfl) HST.out ?_
        simp only [List.take, List.drop]
        iterate 9 (first | (refine wpM_want (by kernel_rfl) (by kernel_rfl) rfl rfl ?_; intro K hK; go_big_quiet_op; go_big_quiet_on) | (refine wpM_is (by kernel_rfl) (by kernel_rfl) rfl _ (fun _ w _ => rfl) ?_; simp only [Act.put, List.setIfInBounds_toArray, List.set_cons_succ, List.set_cons_zero]))
        refine wpM_chainX 0 (gnth 0) (gnth_lasts _ _) (by kernel_rfl) (by kernel_rfl) (fun a' g hg hgl he => ?_) (fun d hd => ?_)
        · have hmv := ghN_alloc (by rw [HΓ.out]; exact hg) hgl
          rw [HΓ.out] at hmv
          have hv0 := List.eq_nil_of_length_eq_zero hgl
          simp [go_sem]
          exact ⟨_, rfl, hmv, by rw [hv0]; rfl⟩
        cases hd
        simp only [List.nil_append]
        refine wpM_store 1 (by kernel_rfl) rfl rfl (by kernel_rfl) (by kernel_rfl) (fun a' g hg hgl he => ?_) ?_
        · obtain ⟨v0, hv0⟩ := List.length_eq_one_iff.1 hgl
          obtain ⟨h10, h29, _⟩ := he
          have k10 : g.vs[0]? = some (a'.eval (.tmp 10)) := h10
          have k29 : a'.eval (.tmp 29) = .agg #[.int .i64 ula, .int .i64 unu] := h29
          rw [hv0] at k10
          have k11 : v0 = a'.eval (.tmp 10) := by simpa using k10
          clear h10 h29 k10
          have hgi : (ghN x13 (.cells #[.int .i64 0, .int .i64 0] 108) (.cells #[.int .i64 ula, .int .i64 unu] 108)).inv [v0] g.w := by rw [HΓ.out, ← hv0]; exact hg
          obtain ⟨b', e'', hst2⟩ := ghN_set2 hgi
          obtain ⟨q0, q1, z0, z1, hmv⟩ := hst2 (.int .i64 ula) (.int .i64 unu) rfl
          rw [HΓ.out, ← hv0] at hmv
          have t10 : a'.tmps.getD 10 undef = .pointer (some ⟨b', 0, none⟩) := k11.symm.trans e''
          have t29 : a'.tmps.getD 29 undef = .agg #[.int .i64 ula, .int .i64 unu] := k29
          simp [go_sem, t10, t29, q0, q1, z0, z1]
          exact ⟨_, hmv⟩
        refine wpM_nil (by kernel_rfl) (by simp) ?_
        rintro ⟨vs, w5⟩ hg hgl
        rw [← HΓ.out] at hg
        simp only [gexAll, List.drop]
        rintro u10 g10
        match vs, hgl, hg, g10 with
        | [v0, v1], _, ⟨hb5, bb, e0', hge, hbb⟩, g10 =>
        obtain rfl : v0 = u10 := by simpa [gnth] using g10
        subst e0'
        simp only [Act.put, List.setIfInBounds_toArray, List.set_cons_succ, List.set_cons_zero]
        have hO := HO.out.push (R := blkR bb (.cells #[.int .i64 ula, .int .i64 unu] 108)) (F := fun z => z = bb) ⟨fun _ => Iff.rfl, hbb⟩ (fun z hz => hz ▸ hge) hb5
        clear c1 e0 e1 e2 e3 e4 hl hb5 hge hbb ne HST HWB HΓ g10
        replace HO := Lib.hid (show Own w D w5 [blkF f vr (.map (some b)) ins, rowRl vr rl, mapR encK b (mapU m1), blkR bx (.cells #[.int .i64 pr, .int .i64 he, .int .i64 hp, .int .i64 th, .int .i64 tp, .bool sy, .bool fi, .bool rs, .int .i64 sq] 37), blkR bk (.cells #[.int .i64 pr, .int .i64 he, .int .i64 hp, .int .i64 th, .int .i64 tp] 105), blkR bb (.cells #[.int .i64 ula, .int .i64 unu] 108)] from hO)
        clear hO
        clear hlk
        have hO := mapO_shut HO.out 2 rfl
        replace HO := Lib.hid (show Own w D w5 [blkF f vr (.map (some b)) ins, rowRl vr rl, mapO (.map (some b)) m1, blkR bx (.cells #[.int .i64 pr, .int .i64 he, .int .i64 hp, .int .i64 th, .int .i64 tp, .bool sy, .bool fi, .bool rs, .int .i64 sq] 37), blkR bk (.cells #[.int .i64 pr, .int .i64 he, .int .i64 hp, .int .i64 th, .int .i64 tp] 105), blkR bb (.cells #[.int .i64 ula, .int .i64 unu] 108)] from hO)
        clear hO
        have z3_0 : w5.cell? ⟨bx, 0, none⟩ = some (.int .i64 pr) := HO.out.cell 3 rfl 0 rfl
        have z3_1 : w5.cell? ⟨bx, 1, none⟩ = some (.int .i64 he) := HO.out.cell 3 rfl 1 rfl
        have z3_2 : w5.cell? ⟨bx, 2, none⟩ = some (.int .i64 hp) := HO.out.cell 3 rfl 2 rfl
        have z3_3 : w5.cell? ⟨bx, 3, none⟩ = some (.int .i64 th) := HO.out.cell 3 rfl 3 rfl
        have z3_4 : w5.cell? ⟨bx, 4, none⟩ = some (.int .i64 tp) := HO.out.cell 3 rfl 4 rfl
        have z3_5 : w5.cell? ⟨bx, 5, none⟩ = some (.bool sy) := HO.out.cell 3 rfl 5 rfl
        have z3_6 : w5.cell? ⟨bx, 6, none⟩ = some (.bool fi) := HO.out.cell 3 rfl 6 rfl
        have z3_7 : w5.cell? ⟨bx, 7, none⟩ = some (.bool rs) := HO.out.cell 3 rfl 7 rfl
        have z3_8 : w5.cell? ⟨bx, 8, none⟩ = some (.int .i64 sq) := HO.out.cell 3 rfl 8 rfl
        cases ha : admitF rl ⟨pr, he, hp, th, tp, sy, fi, rs, sq⟩ inn with
        | false =>
          have HPF := Lib.hid (HPN.out HV.out HGU.out ha)
          go_wp2_with fail
          refine (o_still HO.out (admits_r (HO.out.blk 0 rfl) (HO.out.row 1 rfl) HRL.out ha)).mono ?_
          rintro e x14 ⟨rfl, hO, -⟩
          replace HO := Lib.hid (show Own w D x14 [blkF f vr (.map (some b)) ins, rowRl vr rl, mapO (.map (some b)) m1, blkR bx (.cells #[.int .i64 pr, .int .i64 he, .int .i64 hp, .int .i64 th, .int .i64 tp, .bool sy, .bool fi, .bool rs, .int .i64 sq] 37), blkR bk (.cells #[.int .i64 pr, .int .i64 he, .int .i64 hp, .int .i64 th, .int .i64 tp] 105), blkR bb (.cells #[.int .i64 ula, .int .i64 unu] 108)] from hO)
          clear hO
          clear z3_0 z3_1 z3_2 z3_3 z3_4 z3_5 z3_6 z3_7 z3_8
          have hO := shutF' (st := ⟨rl, m1, ins⟩) HO.out
          replace HO := Lib.hid (show Own w D x14 [resF f ⟨rl, m1, ins⟩, blkR bx (.cells #[.int .i64 pr, .int .i64 he, .int .i64 hp, .int .i64 th, .int .i64 tp, .bool sy, .bool fi, .bool rs, .int .i64 sq] 37), blkR bk (.cells #[.int .i64 pr, .int .i64 he, .int .i64 hp, .int .i64 th, .int .i64 tp] 105), blkR bb (.cells #[.int .i64 ula, .int .i64 unu] 108)] from hO)
          clear hO
          go_wp2
          go_ret
          exact ⟨(false, ⟨rl, m1, ins⟩), _, ⟨HPF.out, rfl⟩, rfl, HO.out.take 1, HO.out.size⟩
        | true =>
          have HA := Lib.hid ha
          go_wp2_with fail
          refine (o_still HO.out (admits_r (HO.out.blk 0 rfl) (HO.out.row 1 rfl) HRL.out ha)).mono ?_
          rintro e x14 ⟨rfl, hO, -⟩
          replace HO := Lib.hid (show Own w D x14 [blkF f vr (.map (some b)) ins, rowRl vr rl, mapO (.map (some b)) m1, blkR bx (.cells #[.int .i64 pr, .int .i64 he, .int .i64 hp, .int .i64 th, .int .i64 tp, .bool sy, .bool fi, .bool rs, .int .i64 sq] 37), blkR bk (.cells #[.int .i64 pr, .int .i64 he, .int .i64 hp, .int .i64 th, .int .i64 tp] 105), blkR bb (.cells #[.int .i64 ula, .int .i64 unu] 108)] from hO)
          clear hO
          clear z3_0 z3_1 z3_2 z3_3 z3_4 z3_5 z3_6 z3_7 z3_8
          clear ha
          have hO := shutF' (st := ⟨rl, m1, ins⟩) HO.out
          replace HO := Lib.hid (show Own w D x14 [resF f ⟨rl, m1, ins⟩, blkR bx (.cells #[.int .i64 pr, .int .i64 he, .int .i64 hp, .int .i64 th, .int .i64 tp, .bool sy, .bool fi, .bool rs, .int .i64 sq] 37), blkR bk (.cells #[.int .i64 pr, .int .i64 he, .int .i64 hp, .int .i64 th, .int .i64 tp] 105), blkR bb (.cells #[.int .i64 ula, .int .i64 unu] 108)] from hO)
          clear hO
          have z1_0 : x14.cell? ⟨bx, 0, none⟩ = some (.int .i64 pr) := HO.out.cell 1 rfl 0 rfl
          have z1_1 : x14.cell? ⟨bx, 1, none⟩ = some (.int .i64 he) := HO.out.cell 1 rfl 1 rfl
          have z1_2 : x14.cell? ⟨bx, 2, none⟩ = some (.int .i64 hp) := HO.out.cell 1 rfl 2 rfl
          have z1_3 : x14.cell? ⟨bx, 3, none⟩ = some (.int .i64 th) := HO.out.cell 1 rfl 3 rfl
          have z1_4 : x14.cell? ⟨bx, 4, none⟩ = some (.int .i64 tp) := HO.out.cell 1 rfl 4 rfl
          have z1_5 : x14.cell? ⟨bx, 5, none⟩ = some (.bool sy) := HO.out.cell 1 rfl 5 rfl
          have z1_6 : x14.cell? ⟨bx, 6, none⟩ = some (.bool fi) := HO.out.cell 1 rfl 6 rfl
          have z1_7 : x14.cell? ⟨bx, 7, none⟩ = some (.bool rs) := HO.out.cell 1 rfl 7 rfl
          have z1_8 : x14.cell? ⟨bx, 8, none⟩ = some (.int .i64 sq) := HO.out.cell 1 rfl 8 rfl
          have z2_0 : x14.cell? ⟨bk, 0, none⟩ = some (.int .i64 pr) := HO.out.cell 2 rfl 0 rfl
          have z2_1 : x14.cell? ⟨bk, 1, none⟩ = some (.int .i64 he) := HO.out.cell 2 rfl 1 rfl
          have z2_2 : x14.cell? ⟨bk, 2, none⟩ = some (.int .i64 hp) := HO.out.cell 2 rfl 2 rfl
          have z2_3 : x14.cell? ⟨bk, 3, none⟩ = some (.int .i64 th) := HO.out.cell 2 rfl 3 rfl
          have z2_4 : x14.cell? ⟨bk, 4, none⟩ = some (.int .i64 tp) := HO.out.cell 2 rfl 4 rfl
          cases rs with
          | true =>
            have HPF := Lib.hid (HPR.out HV.out HGU.out HA.out rfl)
            go_wp2
            go_ret
            exact ⟨(true, ⟨rl, m1, ins⟩), _, ⟨HPF.out, rfl⟩, rfl, HO.out.take 1, HO.out.size⟩
          | false =>
            have HPF := Lib.hid (HPS.out HV.out HGU.out HA.out rfl)
            go_wp2_with fail
            refine (insert_o (k := ⟨pr, he, hp, th, tp⟩) HO.out 0 rfl HI1.out HZ1.out HML.out).mono ?_
            rintro e y9 ⟨m2, v2, ⟨hroom, rfl⟩, rfl, hO, -⟩
            have HRM := Lib.hid hroom
            clear hroom
            replace HO := Lib.hid (show Own w D y9 [resF f ⟨rl, setU ⟨pr, he, hp, th, tp⟩ ⟨now, ins + 1⟩ m2, ins + 1⟩, blkR bx (.cells #[.int .i64 pr, .int .i64 he, .int .i64 hp, .int .i64 th, .int .i64 tp, .bool sy, .bool fi, .bool false, .int .i64 sq] 37), blkR bk (.cells #[.int .i64 pr, .int .i64 he, .int .i64 hp, .int .i64 th, .int .i64 tp] 105), blkR bb (.cells #[.int .i64 ula, .int .i64 unu] 108)] from hO)
            clear hO
            clear z1_0 z1_1 z1_2 z1_3 z1_4 z1_5 z1_6 z1_7 z1_8 z2_0 z2_1 z2_2 z2_3 z2_4
            go_wp2
            go_ret
            exact ⟨(true, ⟨rl, setU ⟨pr, he, hp, th, tp⟩ ⟨now, ins + 1⟩ m2, ins + 1⟩), _, ⟨HPF.out m2 HRM.out, rfl⟩, rfl, HO.out.take 1, HO.out.size⟩
      | some u =>
        have HPF := Lib.hid (HPK.out HV.out u hgu)
        rw [hgu] at hlk
        obtain ⟨ula, unu⟩ := u
        clear hgu
        generalize hΓ : ghN x13 (.cells #[.int .i64 0, .int .i64 0] 108) (.cells #[.int .i64 ula, .int .i64 unu] 108) = Γ
        have HST := Lib.hid (show Γ.inv [] x13 by rw [← hΓ]; exact ⟨Below.refl _ _, trivial⟩)
        have HWB := Lib.hid (show ∀ q : Γ.Wd, Below x13.heap.size x13 q.w by rw [← hΓ]; exact fun q => q.h.1)
        have hl : ∀ q : Γ.Wd, (Instr.lookup 75 (.map (some b)) (.agg #[.int .i64 pr, .int .i64 he, .int .i64 hp, .int .i64 th, .int .i64 tp]) true).run Try.prog q.w = .ok (.tuple #[.agg #[.int .i64 ula, .int .i64 unu], .bool true]) q.w := fun q => hlk q.w (HWB.out q)
        have c1 : ∀ q : Γ.Wd, q.w.cell? ⟨f, 1, none⟩ = some (.map (some b)) := fun q => keep (HWB.out q) (HO.out.cell 0 rfl 1 rfl)
        have e0 : ∀ q : Γ.Wd, q.w.cell? ⟨bk, 0, none⟩ = some (.int .i64 pr) := fun q => keep (HWB.out q) (HO.out.cell 4 rfl 0 rfl)
        have e1 : ∀ q : Γ.Wd, q.w.cell? ⟨bk, 1, none⟩ = some (.int .i64 he) := fun q => keep (HWB.out q) (HO.out.cell 4 rfl 1 rfl)
        have e2 : ∀ q : Γ.Wd, q.w.cell? ⟨bk, 2, none⟩ = some (.int .i64 hp) := fun q => keep (HWB.out q) (HO.out.cell 4 rfl 2 rfl)
        have e3 : ∀ q : Γ.Wd, q.w.cell? ⟨bk, 3, none⟩ = some (.int .i64 th) := fun q => keep (HWB.out q) (HO.out.cell 4 rfl 3 rfl)
        have e4 : ∀ q : Γ.Wd, q.w.cell? ⟨bk, 4, none⟩ = some (.int .i64 tp) := fun q => keep (HWB.out q) (HO.out.cell 4 rfl 4 rfl)
        have HΓ := Lib.hid hΓ
        clear hΓ
        have ne : Nonempty Γ.Wd := ⟨⟨[], x13, HST.out⟩⟩
        refine wp_region_M Γ 11 [9, 10] (by kernel_rfl) (by kernel_rfl) (by kernel_rfl) (by kernel_rfl) HST.out ?_
        simp only [List.take, List.drop]
        iterate 9 (first | (refine wpM_want (by kernel_rfl) (by kernel_rfl) rfl rfl ?_; intro K hK; go_big_quiet_op; go_big_quiet_on) | (refine wpM_is (by kernel_rfl) (by kernel_rfl) rfl _ (fun _ w _ => rfl) ?_; simp only [Act.put, List.setIfInBounds_toArray, List.set_cons_succ, List.set_cons_zero]))
        refine wpM_chainX 0 (gnth 0) (gnth_lasts _ _) (by kernel_rfl) (by kernel_rfl) (fun a' g hg hgl he => ?_) (fun d hd => ?_)
        · have hmv := ghN_alloc (by rw [HΓ.out]; exact hg) hgl
          rw [HΓ.out] at hmv
          have hv0 := List.eq_nil_of_length_eq_zero hgl
          simp [go_sem]
          exact ⟨_, rfl, hmv, by rw [hv0]; rfl⟩
        cases hd
        simp only [List.nil_append]
        refine wpM_store 1 (by kernel_rfl) rfl rfl (by kernel_rfl) (by kernel_rfl) (fun a' g hg hgl he => ?_) ?_
        · obtain ⟨v0, hv0⟩ := List.length_eq_one_iff.1 hgl
          obtain ⟨h10, h29, _⟩ := he
          have k10 : g.vs[0]? = some (a'.eval (.tmp 10)) := h10
          have k29 : a'.eval (.tmp 29) = .agg #[.int .i64 ula, .int .i64 unu] := h29
          rw [hv0] at k10
          have k11 : v0 = a'.eval (.tmp 10) := by simpa using k10
          clear h10 h29 k10
          have hgi : (ghN x13 (.cells #[.int .i64 0, .int .i64 0] 108) (.cells #[.int .i64 ula, .int .i64 unu] 108)).inv [v0] g.w := by rw [HΓ.out, ← hv0]; exact hg
          obtain ⟨b', e'', hst2⟩ := ghN_set2 hgi
          obtain ⟨q0, q1, z0, z1, hmv⟩ := hst2 (.int .i64 ula) (.int .i64 unu) rfl
          rw [HΓ.out, ← hv0] at hmv
          have t10 : a'.tmps.getD 10 undef = .pointer (some ⟨b', 0, none⟩) := k11.symm.trans e''
          have t29 : a'.tmps.getD 29 undef = .agg #[.int .i64 ula, .int .i64 unu] := k29
          simp [go_sem, t10, t29, q0, q1, z0, z1]
          exact ⟨_, hmv⟩
        refine wpM_nil (by kernel_rfl) (by simp) ?_
        rintro ⟨vs, w5⟩ hg hgl
        rw [← HΓ.out] at hg
        simp only [gexAll, List.drop]
        rintro u10 g10
        match vs, hgl, hg, g10 with
        | [v0, v1], _, ⟨hb5, bb, e0', hge, hbb⟩, g10 =>
        obtain rfl : v0 = u10 := by simpa [gnth] using g10
        subst e0'
        simp only [Act.put, List.setIfInBounds_toArray, List.set_cons_succ, List.set_cons_zero]
        have hO := HO.out.push (R := blkR bb (.cells #[.int .i64 ula, .int .i64 unu] 108)) (F := fun z => z = bb) ⟨fun _ => Iff.rfl, hbb⟩ (fun z hz => hz ▸ hge) hb5
        clear c1 e0 e1 e2 e3 e4 hl hb5 hge hbb ne HST HWB HΓ g10
        replace HO := Lib.hid (show Own w D w5 [blkF f vr (.map (some b)) ins, rowRl vr rl, mapR encK b (mapU m1), blkR bx (.cells #[.int .i64 pr, .int .i64 he, .int .i64 hp, .int .i64 th, .int .i64 tp, .bool sy, .bool fi, .bool rs, .int .i64 sq] 37), blkR bk (.cells #[.int .i64 pr, .int .i64 he, .int .i64 hp, .int .i64 th, .int .i64 tp] 105), blkR bb (.cells #[.int .i64 ula, .int .i64 unu] 108)] from hO)
        clear hO
        clear hlk
        go_wp2
        have c1 := cell_regrown (show w5.cell? ⟨f, 1, none⟩ = some (.map (some b)) from HO.out.cell 0 rfl 1 rfl)
        have e0 := cell_regrown (show w5.cell? ⟨bk, 0, none⟩ = some (.int .i64 pr) from HO.out.cell 4 rfl 0 rfl)
        have e1 := cell_regrown (show w5.cell? ⟨bk, 1, none⟩ = some (.int .i64 he) from HO.out.cell 4 rfl 1 rfl)
        have e2 := cell_regrown (show w5.cell? ⟨bk, 2, none⟩ = some (.int .i64 hp) from HO.out.cell 4 rfl 2 rfl)
        have e3 := cell_regrown (show w5.cell? ⟨bk, 3, none⟩ = some (.int .i64 th) from HO.out.cell 4 rfl 3 rfl)
        have e4 := cell_regrown (show w5.cell? ⟨bk, 4, none⟩ = some (.int .i64 tp) from HO.out.cell 4 rfl 4 rfl)
        have e5 := cell_regrown (show w5.cell? ⟨bb, 1, none⟩ = some (.int .i64 unu) from HO.out.cell 5 rfl 1 rfl)
        refine wp_region_R 9 (by kernel_rfl) (by kernel_rfl) ?_
        simp only [List.take, List.drop]
        iterate 9 (first | (refine wpR_want (by kernel_rfl) rfl rfl ?_; intro K hK; go_big_quiet_op; go_big_quiet_on) | (refine wpR_is (by kernel_rfl) rfl _ (fun w _ => rfl) ?_; simp only [Act.put, List.setIfInBounds_toArray, List.set_cons_succ, List.set_cons_zero]))
        refine wpR_nil (by kernel_rfl) (by simp) ?_
        rintro w8 hb8
        simp only [exAll, List.drop]
        clear c1 e0 e1 e2 e3 e4 e5
        replace HO := Lib.hid (HO.out.stay hb8)
        clear hb8
        obtain ⟨w9, hrun, hO⟩ := HO.out.mapSet (P := Try.prog) 2 rfl keyK Try.underlying75 ⟨pr, he, hp, th, tp⟩ (valU ⟨now, unu⟩)
        rw [mapU_set] at hO
        have hO2 := mapO_shut hO 2 rfl
        clear hO
        have HO3 := Lib.hid (show Own w D w9 (resF f ⟨rl, setU ⟨pr, he, hp, th, tp⟩ ⟨now, unu⟩ m1, ins⟩ :: _) from shutF' (st := ⟨rl, setU ⟨pr, he, hp, th, tp⟩ ⟨now, unu⟩ m1, ins⟩) hO2)
        clear hO2
        go_wp2
        go_ret
        exact ⟨(true, ⟨rl, setU ⟨pr, he, hp, th, tp⟩ ⟨now, unu⟩ m1, ins⟩), _, ⟨HPF.out, rfl⟩, rfl, HO3.out.take 1, HO3.out.size⟩
end

end Go.Proofs.Ytjngfhgcifhioaa
