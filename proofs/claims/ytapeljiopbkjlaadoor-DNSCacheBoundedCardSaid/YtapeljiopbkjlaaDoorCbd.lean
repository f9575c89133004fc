/- DNSCacheBounded, plain and walked. Printed by wip/tools/gen20u.py. -/
import Derived.Test.YtapeljiopbkjlaaDoorCng
namespace Go.Proofs.YtapeljiopbkjlaaDoor
open Go.RowKit Go.Sort
set_option linter.unusedVariables false
set_option maxRecDepth 100000

def abN : ByteArray := ⟨#[97, 46, 98]⟩
def bdR (a : Int) : Rc := ⟨abN, 1, 900, 1 + pk a 60, ⟨#[]⟩⟩
def bdS (g : Nat → Int) : Nat → List En
  | 0 => []
  | k + 1 => putF (k : Int) (bdR (g k)) (bdS g k)
theorem bdR_ok (a : Int) {k : Int} (h0 : 0 ≤ k) (h1 : k ≤ 1000) : recB k (bdR a) = true := by
  have h2 := pk_bd a 60 (by decide)
  refine recB_ok h0 (by omega) (show vname abN = true by kernel_rfl) (show (0:Int) ≤ 900 by decide) (show (900:Int) ≤ 1000 by decide) ?_
  have : adrOk (1 + pk a 60) = true := by simp only [adrOk, Bool.and_eq_true, decide_eq_true_eq]; omega
  simp [recA, bdR, this]
def BdOk (e : En) : Prop := e.nm = abN ∧ e.kd = 1 ∧ 100 < e.ex
theorem bdS_inv (g : Nat → Int) : ∀ k : Nat, k ≤ 80 → CInv (k : Int) (bdS g k) ∧ ∀ e ∈ bdS g k, BdOk e
  | 0, _ => ⟨CInv.nil _, fun e h => absurd h (List.not_mem_nil)⟩
  | k + 1, hk => by
    obtain ⟨h1, h2⟩ := bdS_inv g k (by omega)
    refine ⟨(h1.put (bdR (g k))).later (show (k : Int) ≤ ((k + 1 : Nat) : Int) by omega), ?_⟩
    rw [show bdS g (k + 1) = putF (k : Int) (bdR (g k)) (bdS g k) from rfl, putF_eq _ (bdR_ok _ (by omega) (by omega)) (show (900:Int) ≠ 0 by decide)]
    intro e he
    rcases List.mem_append.1 he with he | he
    · exact h2 e (List.mem_filter.1 ((room_sub _).subset he)).1
    · obtain rfl := by simpa using he
      exact ⟨rfl, rfl, by show 100 < (k : Int) + 900; omega⟩
theorem bdS_look (g : Nat → Int) (k : Nat) (hk : k ≤ 80) : (lookD 100 abN (bdS g k)).length = (bdS g k).length := by
  obtain ⟨_, h2⟩ := bdS_inv g k hk
  rw [lookD_len]
  unfold recs
  rw [List.length_map, List.filter_eq_self.2]
  intro e he
  obtain ⟨e1, e2, e3⟩ := h2 e he
  simp [hitB, liveB, e1, e2, e3]
/-- A slice of integers. -/
def RdI (w : World) (v : Value) (len : Nat) (g : Nat → Int) : Prop :=
  ∃ a cap, v = .slice a len cap ∧ len ≤ cap ∧ len ≤ 9223372036854775807 ∧ (∀ i, i < len → i64B (g i)) ∧ (len ≠ 0 → ∃ b o, a = some ⟨b, o, none⟩ ∧ ∀ i, i < len → w.cell? ⟨b, o + i, none⟩ = some (.int .i64 (g i)))
theorem run_bdRb (x : Int) (w : World) : (Instr.build 34 #[(0, .string ⟨#[97, 46, 98]⟩), (1, .int .i64 1), (2, .int .i64 900), (3, .int .i64 x)]).run Tryd.prog w = .ok (.agg #[.string ⟨#[97, 46, 98]⟩, .int .i64 1, .int .i64 900, .int .i64 x, .string ⟨#[]⟩]) w := by kernel_rfl
theorem bd_put (g : Nat → Int) (k : Nat) (a : Int) (h : g k = a) : putF (k : Int) ⟨⟨#[97, 46, 98]⟩, 1, 900, 1 + pk a 60, ⟨#[]⟩⟩ (bdS g k) = bdS g (k + 1) := by subst h; rfl
theorem bd_putE (k : Nat) (a : Int) (h : k ≤ 1000) : putE (k : Int) ⟨⟨#[97, 46, 98]⟩, 1, 900, 1 + pk a 60, ⟨#[]⟩⟩ = 0 := putE_ok (bdR_ok a (by omega) (by omega))
theorem bd_len (g : Nat → Int) (k : Nat) (hk : k < 80) : (bdS g k).length ≤ (bdS g (k + 1)).length ∧ (bdS g (k + 1)).length ≤ (bdS g k).length + 1 ∧ (bdS g (k + 1)).length ≤ 32 := put_len (bdS_inv g k (by omega)).1 (bdR_ok _ (by omega) (by omega)) (show (900:Int) ≠ 0 by decide)
section
attribute [local go_sem ↓] run_bdRb
set_option maxRecDepth 100000 in
set_option maxHeartbeats 8000000 in
theorem bounded_walk (len : Nat) (g : Nat → Int) (v : Value) (a : Addr) (w : World) (hr : RdI w v len g) (hg : w.cell? ⟨errG, 0, none⟩ = some (errV a)) :
    Calls Tryd.prog 4 #[v] w fun e w' => e = .returned (.bool true) ∧ Below w.heap.size w w' := by
  have HG := Lib.hid hg
  obtain ⟨p, cap, rfl, hcap, hlen, hok, hcell⟩ := hr
  have HOK := Lib.hid hok
  have HC := Lib.hid hcell
  clear hok hcell hg
  have HO := Lib.hid (Own.nil w none0)
  go_enter Tryd.func4, Tryd.ntmps4
  have hsane := sane_o (w0 := w) (w := w) (a := a) (Own.nil _ _) (keep HO.out.below HG.out)
  go_wp2_with fail
  refine hsane.mono ?_
  rintro e x1 ⟨rfl, hO1, -⟩
  have hO := HO.out.stay hO1.below
  replace HO := Lib.hid (show Own w none0 x1 [] from hO)
  clear hO hO1 hsane
  go_wp2_with fail
  refine (cnew_o HO.out).mono ?_
  rintro e x2 ⟨c, rfl, hO, -⟩
  replace HO := Lib.hid (show Own w none0 x2 [resC c []] from hO)
  clear hO
  go_wp2
  go_loopw [5] (fun iv wr => ∃ k : Nat, k ≤ len ∧ k ≤ 80 ∧ iv = .int .i64 k ∧ Own w none0 wr [resC c (bdS g k)]) (fun iv _ => 80 - (intOf iv).toNat)
  case atStart => exact ⟨0, Nat.zero_le _, Nat.zero_le _, rfl, HO.out⟩
  case round =>
    obtain ⟨k, hk1, hk2, rfl, hO⟩ := hrel
    replace HO := Lib.hid hO
    clear hO
    by_cases hlt : k < len
    · by_cases hlt8 : k < 80
      · obtain ⟨b, o, rfl, hcc⟩ := HC.out (by omega)
        have x1 := HOK.out k hlt
        have y0 : wr.cell? ⟨b, o + k, none⟩ = some (.int .i64 (g k)) := keep HO.out.below (hcc k hlt)
        have HY := Lib.hid (hcc k hlt)
        clear hcc
        obtain ⟨i1, i2, i3⟩ := bd_len g k hlt8
        have HL0 := Lib.hid (bdS_inv g k (by omega)).1.len
        have HPF := Lib.hid (bd_put g k (g k) rfl)
        have HPE := Lib.hid (bd_putE k (g k) (by omega))
        have P2 := Lib.hid (fun w => pick_b (g k) 60 w x1 (by decide))
        obtain ⟨q3, q4⟩ := pk_bd (g k) 60 (by decide)
        obtain ⟨gk, hgk⟩ : ∃ y, g k = y := ⟨_, rfl⟩
        rw [hgk] at y0 HPF HPE P2 q3 q4 HY
        obtain ⟨pn, hpn⟩ : ∃ y, pk gk 60 = y := ⟨_, rfl⟩
        rw [hpn] at HPF HPE P2 q3 q4
        obtain ⟨S0, hS0⟩ : ∃ y, bdS g k = y := ⟨_, rfl⟩
        obtain ⟨S1, hS1⟩ : ∃ y, bdS g (k + 1) = y := ⟨_, rfl⟩
        obtain ⟨n0, hn0⟩ : ∃ y, S0.length = y := ⟨_, rfl⟩
        obtain ⟨n1, hn1⟩ : ∃ y, S1.length = y := ⟨_, rfl⟩
        rw [hS0] at HO HPF i1 i2 HL0
        rw [hS1] at HPF i1 i2 i3
        rw [hn0] at i1 i2
        rw [hn1] at i1 i2 i3
        have HN0 := Lib.hid hn0
        have HN1 := Lib.hid hn1
        have HS1 := Lib.hid hS1
        clear hgk hpn hS0 hS1 hn0 hn1 x1
        go_wp2_with fail
        refine (clen_r (n := n0) HO.out 0 rfl HN0.out).mono ?_
        rintro e x3 ⟨rfl, hO, -⟩
        replace HO := Lib.hid (show Own w none0 x3 [resC c S0] from hO)
        clear hO
        have y1 : x3.cell? ⟨b, o + k, none⟩ = some (.int .i64 gk) := keep HO.out.below HY.out
        go_wp2_with fail
        refine (o_still HO.out (P2.out _)).mono ?_
        rintro e x4 ⟨rfl, hO, -⟩
        replace HO := Lib.hid (show Own w none0 x4 [resC c S0] from hO)
        clear hO
        clear y0 y1
        go_wp2_with fail
        refine (put_r k ⟨⟨#[97, 46, 98]⟩, 1, 900, 1 + pn, ⟨#[]⟩⟩ HO.out 0 rfl (keep HO.out.below HG.out) (show ByteArray.size ⟨#[97, 46, 98]⟩ ≤ maxLen by decide) (show ByteArray.size ⟨#[]⟩ ≤ maxLen by decide) HL0.out HPF.out HPE.out).mono ?_
        rintro e x5 ⟨rfl, hO, -⟩
        replace HO := Lib.hid (show Own w none0 x5 [resC c S1] from hO)
        clear hO
        go_wp2_with fail
        refine (clen_r (n := n1) HO.out 0 rfl HN1.out).mono ?_
        rintro e x6 ⟨rfl, hO, -⟩
        replace HO := Lib.hid (show Own w none0 x6 [resC c S1] from hO)
        clear hO
        go_wp2_with fail
        refine (clen_r (n := n1) HO.out 0 rfl HN1.out).mono ?_
        rintro e x7 ⟨rfl, hO, -⟩
        replace HO := Lib.hid (show Own w none0 x7 [resC c S1] from hO)
        clear hO
        go_wp2_with fail
        refine (clen_r (n := n1) HO.out 0 rfl HN1.out).mono ?_
        rintro e x8 ⟨rfl, hO, -⟩
        replace HO := Lib.hid (show Own w none0 x8 [resC c S1] from hO)
        clear hO
        go_wp2
        go_roundw
        case rel => exact ⟨k + 1, by omega, by omega, by go_num, by rw [HS1.out]; exact HO.out⟩
        case measure => simp [intOf]; omega
      · obtain rfl : k = 80 := by omega
        have HI := Lib.hid (bdS_inv g 80 (by omega)).1
        obtain ⟨m, hm⟩ : ∃ y, lookD 100 ⟨#[97, 46, 98]⟩ (bdS g 80) = y := ⟨_, rfl⟩
        obtain ⟨kn, hkn⟩ : ∃ y, knwD 100 ⟨#[97, 46, 98]⟩ (bdS g 80) = y := ⟨_, rfl⟩
        have HM := Lib.hid hm
        have HK := Lib.hid hkn
        have HML := Lib.hid (show (bdS g 80).length = m.length by rw [← hm]; exact (bdS_look g 80 (by omega)).symm)
        clear hm hkn
        go_wp2_with fail
        refine (look_d (m := m) (k := kn) (100) ⟨#[97, 46, 98]⟩ HO.out 0 rfl (HI.out.len) (HI.out.ap) HM.out HK.out).mono ?_
        rintro e x3 ⟨p1, p1c, rfl, hO, -⟩
        replace HO := Lib.hid (show Own w none0 x3 [resC c (bdS g 80), rowR (.slice p1 m.length p1c) 34 5 m.length (m.flatMap cRc)] from hO)
        clear hO
        obtain ⟨n1, hn1⟩ : ∃ y, m.length = y := ⟨_, rfl⟩
        rw [hn1] at HO HML ⊢
        clear hn1
        go_wp2_with fail
        refine (clen_r (n := n1) HO.out 0 rfl HML.out).mono ?_
        rintro e x4 ⟨rfl, hO, -⟩
        replace HO := Lib.hid (show Own w none0 x4 [resC c (bdS g 80), rowR (.slice p1 n1 p1c) 34 5 n1 (m.flatMap cRc)] from hO)
        clear hO
        go_wp2
        go_ret
        exact ⟨rfl, HO.out.below⟩
    · obtain rfl : k = len := by omega
      have HI := Lib.hid (bdS_inv g k (by omega)).1
      obtain ⟨m, hm⟩ : ∃ y, lookD 100 ⟨#[97, 46, 98]⟩ (bdS g k) = y := ⟨_, rfl⟩
      obtain ⟨kn, hkn⟩ : ∃ y, knwD 100 ⟨#[97, 46, 98]⟩ (bdS g k) = y := ⟨_, rfl⟩
      have HM := Lib.hid hm
      have HK := Lib.hid hkn
      have HML := Lib.hid (show (bdS g k).length = m.length by rw [← hm]; exact (bdS_look g k (by omega)).symm)
      clear hm hkn
      go_wp2_with fail
      refine (look_d (m := m) (k := kn) (100) ⟨#[97, 46, 98]⟩ HO.out 0 rfl (HI.out.len) (HI.out.ap) HM.out HK.out).mono ?_
      rintro e x3 ⟨p1, p1c, rfl, hO, -⟩
      replace HO := Lib.hid (show Own w none0 x3 [resC c (bdS g k), rowR (.slice p1 m.length p1c) 34 5 m.length (m.flatMap cRc)] from hO)
      clear hO
      obtain ⟨n1, hn1⟩ : ∃ y, m.length = y := ⟨_, rfl⟩
      rw [hn1] at HO HML ⊢
      clear hn1
      go_wp2_with fail
      refine (clen_r (n := n1) HO.out 0 rfl HML.out).mono ?_
      rintro e x4 ⟨rfl, hO, -⟩
      replace HO := Lib.hid (show Own w none0 x4 [resC c (bdS g k), rowR (.slice p1 n1 p1c) 34 5 n1 (m.flatMap cRc)] from hO)
      clear hO
      go_wp2
      go_ret
      exact ⟨rfl, HO.out.below⟩
end

end Go.Proofs.YtapeljiopbkjlaaDoor
