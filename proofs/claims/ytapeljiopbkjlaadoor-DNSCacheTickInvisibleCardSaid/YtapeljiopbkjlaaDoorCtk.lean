/- DNSCacheTickInvisible, plain and walked. Printed by wip/tools/gen20x.py. -/
import Derived.Test.YtapeljiopbkjlaaDoorCng
namespace Go.Proofs.YtapeljiopbkjlaaDoor
open Go.RowKit Go.Sort
set_option linter.unusedVariables false
set_option maxRecDepth 100000

theorem tick_same (t : Int) (s : ByteArray) (l : List En) : lookD t s (tickF t l) = lookD t s l ∧ knwD t s (tickF t l) = knwD t s l := by
  obtain ⟨a, b⟩ := recs_filter (now := t) (s := s) (p := fun x => liveB t x) (l := l) (fun x _ hx => by
    simp only [hitB, Bool.and_eq_true] at hx
    exact hx.2)
  exact ⟨lookD_of a, b⟩
theorem tick_none {t now : Int} {l : List En} (h : CInv t l) (hn : t + 1000 ≤ now) : tickF now l = [] := by
  unfold tickF
  rw [List.filter_eq_nil_iff]
  intro x hx hl
  have := (h.ok x hx).ex
  simp only [liveB, decide_eq_true_eq] at hl
  omega
theorem same_self {w : World} {v u : Value} {x : List Rc} {n : Nat} (hx : w.ownsRow 0 34 5 v n (x.flatMap cRc)) (hy : w.ownsRow 0 34 5 u n (x.flatMap cRc)) (hn : x.length = n) (hl : n ≤ 1000) :
    Calls Tryd.prog 21 #[v, u] w fun e w' => e = .returned (.bool true) ∧ Below w.heap.size w w' := by
  subst hn
  have h := same_any hx hy hl
  rwa [sameB_yes rfl] at h
set_option maxRecDepth 100000 in
set_option maxHeartbeats 8000000 in
theorem tick_walk (len : Nat) (g : Nat → Ca) (v : Value) (now : Int) (later : Int) (name : Int) (a : Addr) (w : World) (hr : RdCa w v len g) (hnnow : i64B now) (hnlater : i64B later) (hnname : i64B name) (hg : w.cell? ⟨errG, 0, none⟩ = some (errV a)) :
    Calls Tryd.prog 9 #[v, .int .i64 now, .int .i64 later, .int .i64 name] w fun e w' => e = .returned (.bool true) ∧ Below w.heap.size w w' := by
  have HG := Lib.hid hg
  have HR := Lib.hid hr
  have HN1 := Lib.hid hnnow
  have HNM := Lib.hid (fun w => name_any name w hnname)
  have HNX := Lib.hid (nmF_max name)
  generalize nmF name = s at *
  have HPK := Lib.hid (fun w => pick_b later 30 w hnlater (by decide))
  have q3 := pk_bd later 30 (by decide)
  generalize pk later 30 = q at *
  obtain ⟨q1, q2⟩ := q3
  obtain ⟨vp, vcap, rfl, _⟩ := hr
  clear hg hnnow hnlater hnname
  have HO := Lib.hid (Own.nil w none0)
  go_enter Tryd.func9, Tryd.ntmps9
  have hsane := sane_o (w0 := w) (w := w) (a := a) (Own.nil _ _) (keep HO.out.below HG.out)
  go_wp2_with fail
  refine hsane.mono ?_
  rintro e x1 ⟨rfl, hO1, -⟩
  have hO := HO.out.stay hO1.below
  replace HO := Lib.hid (show Own w none0 x1 [] from hO)
  clear hO hO1 hsane
  have hmade := made_o (w0 := x1) (w := x1) (a := a) len g (.slice vp len vcap) now (HR.out.stay HO.out.below) HN1.out (Own.nil _ _) (keep HO.out.below HG.out)
  go_wp2_with fail
  refine hmade.mono ?_
  obtain ⟨tm, htm⟩ : ∃ y, (madeS now g (min len 40)).1 = y := ⟨_, rfl⟩
  obtain ⟨l, hl⟩ : ∃ y, (madeS now g (min len 40)).2 = y := ⟨_, rfl⟩
  rintro e x2 ⟨c, rfl, hO1, -⟩
  have HCI := Lib.hid (show CInv tm l by rw [← htm, ← hl]; exact madeS_inv _ _ _)
  have HLK := Lib.hid (show l.length ≤ (min len 40) by rw [← hl]; exact madeS_lenk _ _ _)
  have hts := madeS_time now g (min len 40)
  rw [htm] at hts
  have hmin : ((min len 40 : Nat) : Int) ≤ 40 := by omega
  obtain ⟨ht1, ht2⟩ : 0 ≤ tm ∧ tm ≤ 1000320 := by omega
  rw [hl] at hO1
  have hO := HO.out.stay hO1.below
  rw [htm]
  have hc := (hO1 : Own _ none0 x2 [resC c l])
  have hO2 := HO.out.joinC hc
  replace HO := Lib.hid (show Own w none0 x2 [resC c l] from hO2)
  clear hO hO1 hO2 hc hmade hts hmin htm hl
  go_wp2_with fail
  refine (o_still HO.out (HPK.out _)).mono ?_
  rintro e x3 ⟨rfl, hO, -⟩
  replace HO := Lib.hid (show Own w none0 x3 [resC c l] from hO)
  clear hO
  obtain ⟨m, hm⟩ : ∃ y, lookD (tm + q) s l = y := ⟨_, rfl⟩
  obtain ⟨kn, hkn⟩ : ∃ y, knwD (tm + q) s l = y := ⟨_, rfl⟩
  have HM := Lib.hid hm
  have HK := Lib.hid hkn
  have HM2 := Lib.hid (show lookD (tm + q) s (tickF (tm + q) l) = m by rw [(tick_same _ _ _).1]; exact hm)
  have HK2 := Lib.hid (show knwD (tm + q) s (tickF (tm + q) l) = kn by rw [(tick_same _ _ _).2]; exact hkn)
  have HC2 := Lib.hid (HCI.out.tick (tm + q))
  have HE := Lib.hid (show tickF (tm + q + 1001) (tickF (tm + q) l) = [] from tick_none HC2.out (by omega))
  have HTL := Lib.hid (show (tickF (tm + q) l).length ≤ l.length from List.length_filter_le _ _)
  have HML := Lib.hid (show m.length ≤ 32 by rw [← hm, lookD_len]; exact Nat.le_trans (recs_len_le _ _ _) HCI.out.len)
  obtain ⟨n0, hn0⟩ : ∃ y, l.length = y := ⟨_, rfl⟩
  obtain ⟨n1, hn1⟩ : ∃ y, (tickF (tm + q) l).length = y := ⟨_, rfl⟩
  have HN0 := Lib.hid hn0
  have HNN1 := Lib.hid hn1
  rw [hn0, hn1] at HTL
  clear hm hkn hn0 hn1
  go_wp2_with fail
  refine (o_still HO.out (HNM.out _)).mono ?_
  rintro e x4 ⟨rfl, hO, -⟩
  replace HO := Lib.hid (show Own w none0 x4 [resC c l] from hO)
  clear hO
  go_wp2_with fail
  refine (look_d (m := m) (k := kn) (tm + q) s HO.out 0 rfl (HCI.out.len) (HCI.out.ap) HM.out HK.out).mono ?_
  rintro e x5 ⟨p1, p1c, rfl, hO, -⟩
  replace HO := Lib.hid (show Own w none0 x5 [resC c l, rowR (.slice p1 m.length p1c) 34 5 m.length (m.flatMap cRc)] from hO)
  clear hO
  obtain ⟨ml, hml⟩ : ∃ y, m.length = y := ⟨_, rfl⟩
  have HMN := Lib.hid hml
  rw [hml] at HO HML ⊢
  clear hml
  go_wp2_with fail
  refine (clen_r (n := n0) HO.out 0 rfl HN0.out).mono ?_
  rintro e x6 ⟨rfl, hO, -⟩
  replace HO := Lib.hid (show Own w none0 x6 [resC c l, rowR (.slice p1 ml p1c) 34 5 ml (m.flatMap cRc)] from hO)
  clear hO
  go_wp2_with fail
  refine (tick_r (tm + q) HO.out 0 rfl (Nat.le_trans HCI.out.len (by decide)) rfl).mono ?_
  rintro e x7 ⟨rfl, hO, -⟩
  replace HO := Lib.hid (show Own w none0 x7 [resC c (tickF (tm + q) l), rowR (.slice p1 ml p1c) 34 5 ml (m.flatMap cRc)] from hO)
  clear hO
  go_wp2_with fail
  refine (o_still HO.out (HNM.out _)).mono ?_
  rintro e x8 ⟨rfl, hO, -⟩
  replace HO := Lib.hid (show Own w none0 x8 [resC c (tickF (tm + q) l), rowR (.slice p1 ml p1c) 34 5 ml (m.flatMap cRc)] from hO)
  clear hO
  go_wp2_with fail
  refine (look_d (m := m) (k := kn) (tm + q) s HO.out 0 rfl (HC2.out.len) (HC2.out.ap) HM2.out HK2.out).mono ?_
  rintro e x9 ⟨p2, p2c, rfl, hO, -⟩
  replace HO := Lib.hid (show Own w none0 x9 [resC c (tickF (tm + q) l), rowR (.slice p1 ml p1c) 34 5 ml (m.flatMap cRc), rowR (.slice p2 m.length p2c) 34 5 m.length (m.flatMap cRc)] from hO)
  clear hO
  rw [HMN.out] at HO ⊢
  go_wp2_with fail
  refine (clen_r (n := n1) HO.out 0 rfl HNN1.out).mono ?_
  rintro e x10 ⟨rfl, hO, -⟩
  replace HO := Lib.hid (show Own w none0 x10 [resC c (tickF (tm + q) l), rowR (.slice p1 ml p1c) 34 5 ml (m.flatMap cRc), rowR (.slice p2 ml p2c) 34 5 ml (m.flatMap cRc)] from hO)
  clear hO
  go_wp2_with fail
  refine (tick_r (tm + q + 1001) HO.out 0 rfl (Nat.le_trans HC2.out.len (by decide)) HE.out).mono ?_
  rintro e x11 ⟨rfl, hO, -⟩
  replace HO := Lib.hid (show Own w none0 x11 [resC c [], rowR (.slice p1 ml p1c) 34 5 ml (m.flatMap cRc), rowR (.slice p2 ml p2c) 34 5 ml (m.flatMap cRc)] from hO)
  clear hO
  have htl := HTL.out
  have e1 : ((n1 : Int)) ≤ (n0 : Int) := by omega
  cases kn
  all_goals
    go_wp2_with fail
    refine (o_still HO.out (same_self (HO.out.row 1 rfl) (HO.out.row 2 rfl) HMN.out (by have := HML.out; omega))).mono ?_
    rintro e x12 ⟨rfl, hO, -⟩
    replace HO := Lib.hid (show Own w none0 x12 [resC c [], rowR (.slice p1 ml p1c) 34 5 ml (m.flatMap cRc), rowR (.slice p2 ml p2c) 34 5 ml (m.flatMap cRc)] from hO)
    clear hO
    go_wp2_with fail
    refine (clen_r (n := 0) HO.out 0 rfl rfl).mono ?_
    rintro e x13 ⟨rfl, hO, -⟩
    replace HO := Lib.hid (show Own w none0 x13 [resC c [], rowR (.slice p1 ml p1c) 34 5 ml (m.flatMap cRc), rowR (.slice p2 ml p2c) 34 5 ml (m.flatMap cRc)] from hO)
    clear hO
    go_wp2
    go_ret
    exact ⟨rfl, HO.out.below⟩

end Go.Proofs.YtapeljiopbkjlaaDoor
