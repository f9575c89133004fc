/- DNSCacheNamesIndependent, plain and walked. Printed by wip/tools/gen20x.py. -/
import Derived.Test.YtapeljiopbkjlaaDoorCng
namespace Go.Proofs.YtapeljiopbkjlaaDoor
open Go.RowKit Go.Sort
set_option linter.unusedVariables false
set_option maxRecDepth 100000

theorem put_indep {t : Int} {s : ByteArray} {r : Rc} {l : List En} (h : l.length < 32) (hn : r.nm.toList ≠ s.toList) : recs t s (putF t r l) = recs t s l ∧ knwD t s (putF t r l) = knwD t s l := by
  unfold putF
  split
  · rw [storeF_eq, room_small (Nat.lt_of_le_of_lt (List.length_filter_le _ _) h)]
    obtain ⟨a1, a2⟩ := recs_snoc (now := t) (s := s) (l := l.filter fun x => !putP r x) (e := ⟨r.nm, r.kd, r.ad, r.to, t + r.tt⟩) (look_other hn)
    obtain ⟨b1, b2⟩ := recs_filter (now := t) (s := s) (p := fun x => !putP r x) (l := l) (fun x _ hx => by
      have := (hit_nm hx).1
      cases hp : putP r x with
      | false => rfl
      | true =>
        simp only [putP, Bool.or_eq_true, kyEq_iff] at hp
        have e : x.nm = r.nm := hp.elim (fun h => congrArg Ky.nm h) fun h => congrArg Ky.nm h
        rw [e] at this
        exact absurd this hn)
    exact ⟨a1.trans b1, a2.trans b2⟩
  · exact ⟨rfl, rfl⟩
theorem neg_indep {t : Int} {s nm : ByteArray} {tt : Int} {l : List En} (h : l.length < 32) (hn : nm.toList ≠ s.toList) : recs t s (negF t nm tt l) = recs t s l ∧ knwD t s (negF t nm tt l) = knwD t s l := by
  unfold negF
  split
  · rw [storeF_eq, room_small (Nat.lt_of_le_of_lt (List.length_filter_le _ _) h)]
    obtain ⟨a1, a2⟩ := recs_snoc (now := t) (s := s) (l := l.filter fun x => !negP nm x) (e := ⟨nm, 0, 0, ⟨#[]⟩, t + tt⟩) (look_other hn)
    obtain ⟨b1, b2⟩ := recs_filter (now := t) (s := s) (p := fun x => !negP nm x) (l := l) (fun x _ hx => by
      have := (hit_nm hx).1
      cases hp : negP nm x with
      | false => rfl
      | true =>
        simp only [negP, beq_iff_eq] at hp
        rw [hp] at this
        exact absurd this hn)
    exact ⟨a1.trans b1, a2.trans b2⟩
  · exact ⟨rfl, rfl⟩
theorem same_self {w : World} {v u : Value} {x : List Rc} {n : Nat} (hx : w.ownsRow 0 34 5 v n (x.flatMap cRc)) (hy : w.ownsRow 0 34 5 u n (x.flatMap cRc)) (hn : x.length = n) (hl : n ≤ 1000) :
    Calls Tryd.prog 21 #[v, u] w fun e w' => e = .returned (.bool true) ∧ Below w.heap.size w w' := by
  subst hn
  have h := same_any hx hy hl
  rwa [sameB_yes rfl] at h
def mnN (x y : Int) : Int := min x y
theorem run_mnN (x y : Int) (w : World) : (Builtin.min_ #[3, 3] 3 #[.int .i64 x, .int .i64 y]).run Tryd.prog w = .ok (.int .i64 (mnN x y)) w := by
  have e : mnN x y = if y < x then y else x := by unfold mnN; split <;> omega
  rw [e]
  simp [go_sem]
  exact e
theorem RdCa.part {w : World} {p : Option Addr} {len cap n : Nat} {g : Nat → Ca} (h : RdCa w (.slice p len cap) len g) (hn : n ≤ len) : RdCa w (.slice p n cap) n g := by
  obtain ⟨a, c, e, h1, h2, h3, h4⟩ := h
  cases e
  refine ⟨p, cap, rfl, by omega, by omega, fun i hi => h3 i (by omega), fun h0 => ?_⟩
  obtain ⟨b, o, e, h5⟩ := h4 (by omega)
  exact ⟨b, o, e, fun i hi => h5 i (by omega)⟩
theorem RdCa.cap {w : World} {p : Option Addr} {len cap : Nat} {g : Nat → Ca} (h : RdCa w (.slice p len cap) len g) : len ≤ cap ∧ len ≤ 9223372036854775807 := by
  obtain ⟨a, c, e, h1, h2, _⟩ := h
  cases e
  exact ⟨h1, h2⟩
theorem do_indep {t : Int} {x : Ca} {l : List En} {s : ByteArray} (h : l.length ≤ 10) (hk : x.kd = 0 ∨ x.kd = 2) (hn : (nmF x.rw.nm).toList ≠ s.toList) : lookD t s (doF t x l) = lookD t s l ∧ knwD t s (doF t x l) = knwD t s l := by
  have key : recs t s (doF t x l) = recs t s l ∧ knwD t s (doF t x l) = knwD t s l := by
    unfold doF
    rcases hk with hk | hk
    · rw [if_pos hk]
      exact put_indep (by omega) (by rw [(recF_A _).2.1]; exact hn)
    · rw [if_neg (by omega), if_neg (by omega), if_pos hk]
      exact neg_indep (by omega) hn
  exact ⟨lookD_of key.1, key.2⟩
section
attribute [local go_sem ↓] run_mnN
set_option maxRecDepth 100000 in
set_option maxHeartbeats 8000000 in
theorem indep_walk (len : Nat) (g : Nat → Ca) (v : Value) (now : Int) (x : Ca) (name : Int) (a : Addr) (w : World) (hr : RdCa w v len g) (hnnow : i64B now) (hx : CaOk x) (hnname : i64B name) (hg : w.cell? ⟨errG, 0, none⟩ = some (errV a)) :
    Calls Tryd.prog 8 #[v, .int .i64 now, caV x, .int .i64 name] w fun e w' => e = .returned (.bool true) ∧ Below w.heap.size w w' := by
  have HG := Lib.hid hg
  have HR := Lib.hid hr
  have HN1 := Lib.hid hnnow
  have HNM := Lib.hid (fun w => name_any name w hnname)
  have HNX := Lib.hid (nmF_max name)
  generalize nmF name = s at *
  have HXOK := Lib.hid hx
  have HNX2 := Lib.hid (fun w => name_any x.rw.nm w hx.rw.nm)
  obtain ⟨sx, hsx⟩ : ∃ y, nmF x.rw.nm = y := ⟨_, rfl⟩
  have HSX := Lib.hid hsx
  rw [hsx] at HNX2
  obtain ⟨n, hn⟩ : ∃ y : Nat, min len 10 = y := ⟨_, rfl⟩
  obtain ⟨vp, vcap, hv, _⟩ := id hr
  subst hv
  obtain ⟨cp1, cp2⟩ := hr.cap
  have HR2 := Lib.hid (RdCa.part (n := n) hr (by omega))
  have hmn : mnN len 10 = n := by unfold mnN; omega
  have hn10 : n ≤ 10 := by omega
  have hnl : n ≤ len := by omega
  have HDX := Lib.hid (fun t l a b => do_indep (t := t) (x := x) (l := l) (s := s) a b)
  rw [hsx] at HDX
  obtain ⟨kd, lt, ⟨r0, r1, r2, r3⟩, ⟨snm, skd, stt, sad, sto⟩⟩ := x
  simp only at HNX2 HDX
  clear hg hnnow hnname hx hsx hr hn
  have HO := Lib.hid (Own.nil w none0)
  obtain ⟨x1, hx1⟩ : ∃ y, w.alloc (.cells #[.int .i64 kd, .int .i64 lt, .int .i64 r0, .int .i64 r1, .int .i64 r2, .int .i64 r3, .string snm, .int .i64 skd, .int .i64 stt, .int .i64 sad, .string sto] 36) = y := ⟨_, rfl⟩
  obtain ⟨bx, hbx⟩ : ∃ y, w.heap.size = y := ⟨_, rfl⟩
  have hO := HO.out.alloc (.cells #[.int .i64 kd, .int .i64 lt, .int .i64 r0, .int .i64 r1, .int .i64 r2, .int .i64 r3, .string snm, .int .i64 skd, .int .i64 stt, .int .i64 sad, .string sto] 36)
  rw [hx1, hbx] at hO
  replace HO := Lib.hid (show Own w none0 x1 [blkR bx (.cells #[.int .i64 kd, .int .i64 lt, .int .i64 r0, .int .i64 r1, .int .i64 r2, .int .i64 r3, .string snm, .int .i64 skd, .int .i64 stt, .int .i64 sad, .string sto] 36)] from hO)
  clear hO
  go_enter Tryd.func8, Tryd.ntmps8
  have hsane := sane_o (w0 := x1) (w := x1) (a := a) (Own.nil _ _) (keep HO.out.below HG.out)
  go_wp2_with fail
  refine hsane.mono ?_
  rintro e x2 ⟨rfl, hO1, -⟩
  have hO := HO.out.stay hO1.below
  replace HO := Lib.hid (show Own w none0 x2 [blkR bx (.cells #[.int .i64 kd, .int .i64 lt, .int .i64 r0, .int .i64 r1, .int .i64 r2, .int .i64 r3, .string snm, .int .i64 skd, .int .i64 stt, .int .i64 sad, .string sto] 36)] from hO)
  clear hO hO1 hsane
  clear hx1 hbx
  have hcp : (n : Int) ≤ (vcap : Int) := by omega
  have hn0 : (0 : Int) ≤ (n : Int) := by omega
  have hmade := made_o (w0 := x2) (w := x2) (a := a) n g (.slice vp n vcap) now (HR2.out.stay HO.out.below) HN1.out (Own.nil _ _) (keep HO.out.below HG.out)
  go_wp2_with fail
  refine hmade.mono ?_
  obtain ⟨tm, htm⟩ : ∃ y, (madeS now g (min n 40)).1 = y := ⟨_, rfl⟩
  obtain ⟨l, hl⟩ : ∃ y, (madeS now g (min n 40)).2 = y := ⟨_, rfl⟩
  rintro e x3 ⟨c, rfl, hO1, -⟩
  have HCI := Lib.hid (show CInv tm l by rw [← htm, ← hl]; exact madeS_inv _ _ _)
  have HLK := Lib.hid (show l.length ≤ (min n 40) by rw [← hl]; exact madeS_lenk _ _ _)
  have hts := madeS_time now g (min n 40)
  rw [htm] at hts
  have hmin : ((min n 40 : Nat) : Int) ≤ 40 := by omega
  obtain ⟨ht1, ht2⟩ : 0 ≤ tm ∧ tm ≤ 1000320 := by omega
  rw [hl] at hO1
  have hO := HO.out.stay hO1.below
  rw [htm]
  have hc := (hO1 : Own _ none0 x3 [resC c l])
  have hO2 := HO.out.joinC hc
  replace HO := Lib.hid (show Own w none0 x3 [blkR bx (.cells #[.int .i64 kd, .int .i64 lt, .int .i64 r0, .int .i64 r1, .int .i64 r2, .int .i64 r3, .string snm, .int .i64 skd, .int .i64 stt, .int .i64 sad, .string sto] 36), resC c l] from hO2)
  clear hO hO1 hO2 hc hmade hts hmin htm hl
  have HL10 := Lib.hid (show l.length ≤ 10 from Nat.le_trans HLK.out (by omega))
  have z0_0 : x3.cell? ⟨bx, 0, none⟩ = some (.int .i64 kd) := HO.out.cell 0 rfl 0 rfl
  have z0_1 : x3.cell? ⟨bx, 1, none⟩ = some (.int .i64 lt) := HO.out.cell 0 rfl 1 rfl
  have z0_2 : x3.cell? ⟨bx, 2, none⟩ = some (.int .i64 r0) := HO.out.cell 0 rfl 2 rfl
  have z0_3 : x3.cell? ⟨bx, 3, none⟩ = some (.int .i64 r1) := HO.out.cell 0 rfl 3 rfl
  have z0_4 : x3.cell? ⟨bx, 4, none⟩ = some (.int .i64 r2) := HO.out.cell 0 rfl 4 rfl
  have z0_5 : x3.cell? ⟨bx, 5, none⟩ = some (.int .i64 r3) := HO.out.cell 0 rfl 5 rfl
  have z0_6 : x3.cell? ⟨bx, 6, none⟩ = some (.string snm) := HO.out.cell 0 rfl 6 rfl
  have z0_7 : x3.cell? ⟨bx, 7, none⟩ = some (.int .i64 skd) := HO.out.cell 0 rfl 7 rfl
  have z0_8 : x3.cell? ⟨bx, 8, none⟩ = some (.int .i64 stt) := HO.out.cell 0 rfl 8 rfl
  have z0_9 : x3.cell? ⟨bx, 9, none⟩ = some (.int .i64 sad) := HO.out.cell 0 rfl 9 rfl
  have z0_10 : x3.cell? ⟨bx, 10, none⟩ = some (.string sto) := HO.out.cell 0 rfl 10 rfl
  by_cases h0 : kd = 0
  · subst h0
    by_cases hs : sx.toList = s.toList
    · have e1 : (sx.toList == s.toList) = true := by simp [hs]
      go_wp2_with fail
      refine (o_still HO.out (HNX2.out _)).mono ?_
      rintro e x4 ⟨rfl, hO, -⟩
      replace HO := Lib.hid (show Own w none0 x4 [blkR bx (.cells #[.int .i64 0, .int .i64 lt, .int .i64 r0, .int .i64 r1, .int .i64 r2, .int .i64 r3, .string snm, .int .i64 skd, .int .i64 stt, .int .i64 sad, .string sto] 36), resC c l] from hO)
      clear hO
      clear z0_0 z0_1 z0_2 z0_3 z0_4 z0_5 z0_6 z0_7 z0_8 z0_9 z0_10
      go_wp2_with fail
      refine (o_still HO.out (HNM.out _)).mono ?_
      rintro e x5 ⟨rfl, hO, -⟩
      replace HO := Lib.hid (show Own w none0 x5 [blkR bx (.cells #[.int .i64 0, .int .i64 lt, .int .i64 r0, .int .i64 r1, .int .i64 r2, .int .i64 r3, .string snm, .int .i64 skd, .int .i64 stt, .int .i64 sad, .string sto] 36), resC c l] from hO)
      clear hO
      go_wp2
      go_ret
      exact ⟨rfl, HO.out.below⟩
    · have e1 : (sx.toList == s.toList) = false := by simpa using hs
      have HDD := Lib.hid (HDX.out tm l HL10.out (.inl rfl) hs)
      clear HDX hs
      obtain ⟨m, hm⟩ : ∃ y, lookD tm s l = y := ⟨_, rfl⟩
      obtain ⟨kn, hkn⟩ : ∃ y, knwD tm s l = y := ⟨_, rfl⟩
      have HM := Lib.hid hm
      have HK := Lib.hid hkn
      have HM2 := Lib.hid (show lookD tm s (doF tm ⟨0, lt, ⟨r0, r1, r2, r3⟩, ⟨snm, skd, stt, sad, sto⟩⟩ l) = m by rw [HDD.out.1]; exact hm)
      have HK2 := Lib.hid (show knwD tm s (doF tm ⟨0, lt, ⟨r0, r1, r2, r3⟩, ⟨snm, skd, stt, sad, sto⟩⟩ l) = kn by rw [HDD.out.2]; exact hkn)
      have HC2 := Lib.hid (HCI.out.doF ⟨0, lt, ⟨r0, r1, r2, r3⟩, ⟨snm, skd, stt, sad, sto⟩⟩)
      have HML := Lib.hid (show m.length ≤ 32 by rw [← hm, lookD_len]; exact Nat.le_trans (recs_len_le _ _ _) HCI.out.len)
      clear hm hkn
      go_wp2_with fail
      refine (o_still HO.out (HNX2.out _)).mono ?_
      rintro e x4 ⟨rfl, hO, -⟩
      replace HO := Lib.hid (show Own w none0 x4 [blkR bx (.cells #[.int .i64 0, .int .i64 lt, .int .i64 r0, .int .i64 r1, .int .i64 r2, .int .i64 r3, .string snm, .int .i64 skd, .int .i64 stt, .int .i64 sad, .string sto] 36), resC c l] from hO)
      clear hO
      clear z0_0 z0_1 z0_2 z0_3 z0_4 z0_5 z0_6 z0_7 z0_8 z0_9 z0_10
      go_wp2_with fail
      refine (o_still HO.out (HNM.out _)).mono ?_
      rintro e x5 ⟨rfl, hO, -⟩
      replace HO := Lib.hid (show Own w none0 x5 [blkR bx (.cells #[.int .i64 0, .int .i64 lt, .int .i64 r0, .int .i64 r1, .int .i64 r2, .int .i64 r3, .string snm, .int .i64 skd, .int .i64 stt, .int .i64 sad, .string sto] 36), resC c l] from hO)
      clear hO
      go_wp2_with fail
      refine (o_still HO.out (HNM.out _)).mono ?_
      rintro e x6 ⟨rfl, hO, -⟩
      replace HO := Lib.hid (show Own w none0 x6 [blkR bx (.cells #[.int .i64 0, .int .i64 lt, .int .i64 r0, .int .i64 r1, .int .i64 r2, .int .i64 r3, .string snm, .int .i64 skd, .int .i64 stt, .int .i64 sad, .string sto] 36), resC c l] from hO)
      clear hO
      go_wp2_with fail
      refine (look_d (m := m) (k := kn) (tm) s HO.out 1 rfl (HCI.out.len) (HCI.out.ap) HM.out HK.out).mono ?_
      rintro e x7 ⟨p1, p1c, rfl, hO, -⟩
      replace HO := Lib.hid (show Own w none0 x7 [blkR bx (.cells #[.int .i64 0, .int .i64 lt, .int .i64 r0, .int .i64 r1, .int .i64 r2, .int .i64 r3, .string snm, .int .i64 skd, .int .i64 stt, .int .i64 sad, .string sto] 36), resC c l, rowR (.slice p1 m.length p1c) 34 5 m.length (m.flatMap cRc)] from hO)
      clear hO
      obtain ⟨ml, hml⟩ : ∃ y, m.length = y := ⟨_, rfl⟩
      have HMN := Lib.hid hml
      rw [hml] at HO HML ⊢
      clear hml
      have z0_0 : x7.cell? ⟨bx, 0, none⟩ = some (.int .i64 0) := HO.out.cell 0 rfl 0 rfl
      have z0_1 : x7.cell? ⟨bx, 1, none⟩ = some (.int .i64 lt) := HO.out.cell 0 rfl 1 rfl
      have z0_2 : x7.cell? ⟨bx, 2, none⟩ = some (.int .i64 r0) := HO.out.cell 0 rfl 2 rfl
      have z0_3 : x7.cell? ⟨bx, 3, none⟩ = some (.int .i64 r1) := HO.out.cell 0 rfl 3 rfl
      have z0_4 : x7.cell? ⟨bx, 4, none⟩ = some (.int .i64 r2) := HO.out.cell 0 rfl 4 rfl
      have z0_5 : x7.cell? ⟨bx, 5, none⟩ = some (.int .i64 r3) := HO.out.cell 0 rfl 5 rfl
      have z0_6 : x7.cell? ⟨bx, 6, none⟩ = some (.string snm) := HO.out.cell 0 rfl 6 rfl
      have z0_7 : x7.cell? ⟨bx, 7, none⟩ = some (.int .i64 skd) := HO.out.cell 0 rfl 7 rfl
      have z0_8 : x7.cell? ⟨bx, 8, none⟩ = some (.int .i64 stt) := HO.out.cell 0 rfl 8 rfl
      have z0_9 : x7.cell? ⟨bx, 9, none⟩ = some (.int .i64 sad) := HO.out.cell 0 rfl 9 rfl
      have z0_10 : x7.cell? ⟨bx, 10, none⟩ = some (.string sto) := HO.out.cell 0 rfl 10 rfl
      go_wp2_with fail
      refine (do_o tm ⟨0, lt, ⟨r0, r1, r2, r3⟩, ⟨snm, skd, stt, sad, sto⟩⟩ HXOK.out HO.out 1 rfl (keep HO.out.below HG.out) HCI.out.len).mono ?_
      rintro e x8 ⟨rfl, hO, -⟩
      replace HO := Lib.hid (show Own w none0 x8 [blkR bx (.cells #[.int .i64 0, .int .i64 lt, .int .i64 r0, .int .i64 r1, .int .i64 r2, .int .i64 r3, .string snm, .int .i64 skd, .int .i64 stt, .int .i64 sad, .string sto] 36), resC c (doF tm ⟨0, lt, ⟨r0, r1, r2, r3⟩, ⟨snm, skd, stt, sad, sto⟩⟩ l), rowR (.slice p1 ml p1c) 34 5 ml (m.flatMap cRc)] from hO)
      clear hO
      clear z0_0 z0_1 z0_2 z0_3 z0_4 z0_5 z0_6 z0_7 z0_8 z0_9 z0_10
      go_wp2_with fail
      refine (o_still HO.out (HNM.out _)).mono ?_
      rintro e x9 ⟨rfl, hO, -⟩
      replace HO := Lib.hid (show Own w none0 x9 [blkR bx (.cells #[.int .i64 0, .int .i64 lt, .int .i64 r0, .int .i64 r1, .int .i64 r2, .int .i64 r3, .string snm, .int .i64 skd, .int .i64 stt, .int .i64 sad, .string sto] 36), resC c (doF tm ⟨0, lt, ⟨r0, r1, r2, r3⟩, ⟨snm, skd, stt, sad, sto⟩⟩ l), rowR (.slice p1 ml p1c) 34 5 ml (m.flatMap cRc)] from hO)
      clear hO
      go_wp2_with fail
      refine (look_d (m := m) (k := kn) (tm) s HO.out 1 rfl (HC2.out.len) (HC2.out.ap) HM2.out HK2.out).mono ?_
      rintro e x10 ⟨p2, p2c, rfl, hO, -⟩
      replace HO := Lib.hid (show Own w none0 x10 [blkR bx (.cells #[.int .i64 0, .int .i64 lt, .int .i64 r0, .int .i64 r1, .int .i64 r2, .int .i64 r3, .string snm, .int .i64 skd, .int .i64 stt, .int .i64 sad, .string sto] 36), resC c (doF tm ⟨0, lt, ⟨r0, r1, r2, r3⟩, ⟨snm, skd, stt, sad, sto⟩⟩ l), rowR (.slice p1 ml p1c) 34 5 ml (m.flatMap cRc), rowR (.slice p2 m.length p2c) 34 5 m.length (m.flatMap cRc)] from hO)
      clear hO
      rw [HMN.out] at HO ⊢
      cases kn
      all_goals
        go_wp2_with fail
        refine (o_still HO.out (same_self (HO.out.row 2 rfl) (HO.out.row 3 rfl) HMN.out (by have := HML.out; omega))).mono ?_
        rintro e x11 ⟨rfl, hO, -⟩
        replace HO := Lib.hid (show Own w none0 x11 [blkR bx (.cells #[.int .i64 0, .int .i64 lt, .int .i64 r0, .int .i64 r1, .int .i64 r2, .int .i64 r3, .string snm, .int .i64 skd, .int .i64 stt, .int .i64 sad, .string sto] 36), resC c (doF tm ⟨0, lt, ⟨r0, r1, r2, r3⟩, ⟨snm, skd, stt, sad, sto⟩⟩ l), rowR (.slice p1 ml p1c) 34 5 ml (m.flatMap cRc), rowR (.slice p2 ml p2c) 34 5 ml (m.flatMap cRc)] from hO)
        clear hO
        go_wp2
        go_ret
        exact ⟨rfl, HO.out.below⟩
  by_cases h2 : kd = 2
  · subst h2
    by_cases hs : sx.toList = s.toList
    · have e1 : (sx.toList == s.toList) = true := by simp [hs]
      go_wp2_with fail
      refine (o_still HO.out (HNX2.out _)).mono ?_
      rintro e x4 ⟨rfl, hO, -⟩
      replace HO := Lib.hid (show Own w none0 x4 [blkR bx (.cells #[.int .i64 2, .int .i64 lt, .int .i64 r0, .int .i64 r1, .int .i64 r2, .int .i64 r3, .string snm, .int .i64 skd, .int .i64 stt, .int .i64 sad, .string sto] 36), resC c l] from hO)
      clear hO
      clear z0_0 z0_1 z0_2 z0_3 z0_4 z0_5 z0_6 z0_7 z0_8 z0_9 z0_10
      go_wp2_with fail
      refine (o_still HO.out (HNM.out _)).mono ?_
      rintro e x5 ⟨rfl, hO, -⟩
      replace HO := Lib.hid (show Own w none0 x5 [blkR bx (.cells #[.int .i64 2, .int .i64 lt, .int .i64 r0, .int .i64 r1, .int .i64 r2, .int .i64 r3, .string snm, .int .i64 skd, .int .i64 stt, .int .i64 sad, .string sto] 36), resC c l] from hO)
      clear hO
      go_wp2
      go_ret
      exact ⟨rfl, HO.out.below⟩
    · have e1 : (sx.toList == s.toList) = false := by simpa using hs
      have HDD := Lib.hid (HDX.out tm l HL10.out (.inr rfl) hs)
      clear HDX hs
      obtain ⟨m, hm⟩ : ∃ y, lookD tm s l = y := ⟨_, rfl⟩
      obtain ⟨kn, hkn⟩ : ∃ y, knwD tm s l = y := ⟨_, rfl⟩
      have HM := Lib.hid hm
      have HK := Lib.hid hkn
      have HM2 := Lib.hid (show lookD tm s (doF tm ⟨2, lt, ⟨r0, r1, r2, r3⟩, ⟨snm, skd, stt, sad, sto⟩⟩ l) = m by rw [HDD.out.1]; exact hm)
      have HK2 := Lib.hid (show knwD tm s (doF tm ⟨2, lt, ⟨r0, r1, r2, r3⟩, ⟨snm, skd, stt, sad, sto⟩⟩ l) = kn by rw [HDD.out.2]; exact hkn)
      have HC2 := Lib.hid (HCI.out.doF ⟨2, lt, ⟨r0, r1, r2, r3⟩, ⟨snm, skd, stt, sad, sto⟩⟩)
      have HML := Lib.hid (show m.length ≤ 32 by rw [← hm, lookD_len]; exact Nat.le_trans (recs_len_le _ _ _) HCI.out.len)
      clear hm hkn
      go_wp2_with fail
      refine (o_still HO.out (HNX2.out _)).mono ?_
      rintro e x4 ⟨rfl, hO, -⟩
      replace HO := Lib.hid (show Own w none0 x4 [blkR bx (.cells #[.int .i64 2, .int .i64 lt, .int .i64 r0, .int .i64 r1, .int .i64 r2, .int .i64 r3, .string snm, .int .i64 skd, .int .i64 stt, .int .i64 sad, .string sto] 36), resC c l] from hO)
      clear hO
      clear z0_0 z0_1 z0_2 z0_3 z0_4 z0_5 z0_6 z0_7 z0_8 z0_9 z0_10
      go_wp2_with fail
      refine (o_still HO.out (HNM.out _)).mono ?_
      rintro e x5 ⟨rfl, hO, -⟩
      replace HO := Lib.hid (show Own w none0 x5 [blkR bx (.cells #[.int .i64 2, .int .i64 lt, .int .i64 r0, .int .i64 r1, .int .i64 r2, .int .i64 r3, .string snm, .int .i64 skd, .int .i64 stt, .int .i64 sad, .string sto] 36), resC c l] from hO)
      clear hO
      go_wp2_with fail
      refine (o_still HO.out (HNM.out _)).mono ?_
      rintro e x6 ⟨rfl, hO, -⟩
      replace HO := Lib.hid (show Own w none0 x6 [blkR bx (.cells #[.int .i64 2, .int .i64 lt, .int .i64 r0, .int .i64 r1, .int .i64 r2, .int .i64 r3, .string snm, .int .i64 skd, .int .i64 stt, .int .i64 sad, .string sto] 36), resC c l] from hO)
      clear hO
      go_wp2_with fail
      refine (look_d (m := m) (k := kn) (tm) s HO.out 1 rfl (HCI.out.len) (HCI.out.ap) HM.out HK.out).mono ?_
      rintro e x7 ⟨p1, p1c, rfl, hO, -⟩
      replace HO := Lib.hid (show Own w none0 x7 [blkR bx (.cells #[.int .i64 2, .int .i64 lt, .int .i64 r0, .int .i64 r1, .int .i64 r2, .int .i64 r3, .string snm, .int .i64 skd, .int .i64 stt, .int .i64 sad, .string sto] 36), resC c l, rowR (.slice p1 m.length p1c) 34 5 m.length (m.flatMap cRc)] from hO)
      clear hO
      obtain ⟨ml, hml⟩ : ∃ y, m.length = y := ⟨_, rfl⟩
      have HMN := Lib.hid hml
      rw [hml] at HO HML ⊢
      clear hml
      have z0_0 : x7.cell? ⟨bx, 0, none⟩ = some (.int .i64 2) := HO.out.cell 0 rfl 0 rfl
      have z0_1 : x7.cell? ⟨bx, 1, none⟩ = some (.int .i64 lt) := HO.out.cell 0 rfl 1 rfl
      have z0_2 : x7.cell? ⟨bx, 2, none⟩ = some (.int .i64 r0) := HO.out.cell 0 rfl 2 rfl
      have z0_3 : x7.cell? ⟨bx, 3, none⟩ = some (.int .i64 r1) := HO.out.cell 0 rfl 3 rfl
      have z0_4 : x7.cell? ⟨bx, 4, none⟩ = some (.int .i64 r2) := HO.out.cell 0 rfl 4 rfl
      have z0_5 : x7.cell? ⟨bx, 5, none⟩ = some (.int .i64 r3) := HO.out.cell 0 rfl 5 rfl
      have z0_6 : x7.cell? ⟨bx, 6, none⟩ = some (.string snm) := HO.out.cell 0 rfl 6 rfl
      have z0_7 : x7.cell? ⟨bx, 7, none⟩ = some (.int .i64 skd) := HO.out.cell 0 rfl 7 rfl
      have z0_8 : x7.cell? ⟨bx, 8, none⟩ = some (.int .i64 stt) := HO.out.cell 0 rfl 8 rfl
      have z0_9 : x7.cell? ⟨bx, 9, none⟩ = some (.int .i64 sad) := HO.out.cell 0 rfl 9 rfl
      have z0_10 : x7.cell? ⟨bx, 10, none⟩ = some (.string sto) := HO.out.cell 0 rfl 10 rfl
      go_wp2_with fail
      refine (do_o tm ⟨2, lt, ⟨r0, r1, r2, r3⟩, ⟨snm, skd, stt, sad, sto⟩⟩ HXOK.out HO.out 1 rfl (keep HO.out.below HG.out) HCI.out.len).mono ?_
      rintro e x8 ⟨rfl, hO, -⟩
      replace HO := Lib.hid (show Own w none0 x8 [blkR bx (.cells #[.int .i64 2, .int .i64 lt, .int .i64 r0, .int .i64 r1, .int .i64 r2, .int .i64 r3, .string snm, .int .i64 skd, .int .i64 stt, .int .i64 sad, .string sto] 36), resC c (doF tm ⟨2, lt, ⟨r0, r1, r2, r3⟩, ⟨snm, skd, stt, sad, sto⟩⟩ l), rowR (.slice p1 ml p1c) 34 5 ml (m.flatMap cRc)] from hO)
      clear hO
      clear z0_0 z0_1 z0_2 z0_3 z0_4 z0_5 z0_6 z0_7 z0_8 z0_9 z0_10
      go_wp2_with fail
      refine (o_still HO.out (HNM.out _)).mono ?_
      rintro e x9 ⟨rfl, hO, -⟩
      replace HO := Lib.hid (show Own w none0 x9 [blkR bx (.cells #[.int .i64 2, .int .i64 lt, .int .i64 r0, .int .i64 r1, .int .i64 r2, .int .i64 r3, .string snm, .int .i64 skd, .int .i64 stt, .int .i64 sad, .string sto] 36), resC c (doF tm ⟨2, lt, ⟨r0, r1, r2, r3⟩, ⟨snm, skd, stt, sad, sto⟩⟩ l), rowR (.slice p1 ml p1c) 34 5 ml (m.flatMap cRc)] from hO)
      clear hO
      go_wp2_with fail
      refine (look_d (m := m) (k := kn) (tm) s HO.out 1 rfl (HC2.out.len) (HC2.out.ap) HM2.out HK2.out).mono ?_
      rintro e x10 ⟨p2, p2c, rfl, hO, -⟩
      replace HO := Lib.hid (show Own w none0 x10 [blkR bx (.cells #[.int .i64 2, .int .i64 lt, .int .i64 r0, .int .i64 r1, .int .i64 r2, .int .i64 r3, .string snm, .int .i64 skd, .int .i64 stt, .int .i64 sad, .string sto] 36), resC c (doF tm ⟨2, lt, ⟨r0, r1, r2, r3⟩, ⟨snm, skd, stt, sad, sto⟩⟩ l), rowR (.slice p1 ml p1c) 34 5 ml (m.flatMap cRc), rowR (.slice p2 m.length p2c) 34 5 m.length (m.flatMap cRc)] from hO)
      clear hO
      rw [HMN.out] at HO ⊢
      cases kn
      all_goals
        go_wp2_with fail
        refine (o_still HO.out (same_self (HO.out.row 2 rfl) (HO.out.row 3 rfl) HMN.out (by have := HML.out; omega))).mono ?_
        rintro e x11 ⟨rfl, hO, -⟩
        replace HO := Lib.hid (show Own w none0 x11 [blkR bx (.cells #[.int .i64 2, .int .i64 lt, .int .i64 r0, .int .i64 r1, .int .i64 r2, .int .i64 r3, .string snm, .int .i64 skd, .int .i64 stt, .int .i64 sad, .string sto] 36), resC c (doF tm ⟨2, lt, ⟨r0, r1, r2, r3⟩, ⟨snm, skd, stt, sad, sto⟩⟩ l), rowR (.slice p1 ml p1c) 34 5 ml (m.flatMap cRc), rowR (.slice p2 ml p2c) 34 5 ml (m.flatMap cRc)] from hO)
        clear hO
        go_wp2
        go_ret
        exact ⟨rfl, HO.out.below⟩
  have e0 : (kd == 0) = false := by simpa using h0
  have e2 : (kd == 2) = false := by simpa using h2
  have f0 : (kd != 0) = true := by simpa using h0
  have f2 : (kd != 2) = true := by simpa using h2
  clear HDX
  go_wp2_with fail
  go_ret
  exact ⟨rfl, HO.out.below⟩
end

end Go.Proofs.YtapeljiopbkjlaaDoor
