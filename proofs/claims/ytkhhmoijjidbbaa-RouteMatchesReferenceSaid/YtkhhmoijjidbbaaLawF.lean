/- Contracts of the reference's IsLocal, and plain data of the law's Routes. -/
import Derived.Test.YtkhhmoijjidbbaaLawE
namespace Go.Proofs.Ytkhhmoijjidbbaa
open Go.RowKit Go.Sort
set_option linter.unusedVariables false

set_option maxHeartbeats 1000000 in
theorem rlocal_any (fs : List If) (v : Value) (x : Int) (w : World) (h : RdI w v fs) :
    Calls Try.prog 18 #[v, .int .i64 x] w fun e w' => e = .returned (.tuple #[.int .i64 (locI fs x), .bool (locB fs x)]) ∧ Below w.heap.size w w' := by
  obtain ⟨a, cap, rfl, hcap, hlen, hp⟩ := h
  have HP := Lib.hid hp
  clear hp
  go_enter Try.func18, Try.ntmps18
  go_wp2
  go_loop [6] (fun i => ∃ k : Nat, k ≤ fs.length ∧ i = .int .i64 k ∧ (∀ j, j < k → (ifAt fs j).addr ≠ x)) (fun i => fs.length - (intOf i).toNat)
  case atStart => exact ⟨0, Nat.zero_le _, rfl, fun j hj => by omega⟩
  case round =>
    obtain ⟨k, hk, rfl, hno⟩ := hrel
    have HN := Lib.hid hno
    clear hno
    by_cases hlt : k < fs.length
    · obtain ⟨b, o, rfl, hc⟩ := HP.out (by omega)
      obtain ⟨c0, c1, c2, c3, c4⟩ := hc k hlt
      clear hc
      by_cases he : (ifAt fs k).addr = x
      · have HF := Lib.hid (loc_found fs x k hlt HN.out he)
        have he' : ((ifAt fs k).addr == x) = true := by simpa using he
        clear he
        go_wp2
        go_ret2
        exact ⟨by simp [locI, locB, HF.out], Below.refl _ _⟩
      · have he' : ((ifAt fs k).addr == x) = false := by simpa using he
        have HE := Lib.hid he
        clear he
        go_wp2
        go_round
        case rel => exact ⟨k + 1, by omega, by go_num, fun j hj => by
          by_cases hjk : j = k
          · subst hjk; exact HE.out
          · exact HN.out j (by omega)⟩
        case measure => simp [intOf]; omega
    · have HF := Lib.hid (loc_none fs x (fun j hj => HN.out j (by omega)))
      go_wp2
      go_ret2
      exact ⟨by simp [locI, locB, HF.out], Below.refl _ _⟩

structure Rr where
  addr : Int
  bits : Int
  via : Int
  face : Int
def Rr.ok (x : Rr) : Prop := i64 x.addr ∧ i64 x.bits ∧ i64 x.via ∧ i64 x.face

/-- A slice value that reads as a list of raw routes. -/
def RdW (w : World) (v : Value) (n : Nat) (x : Nat → Rr) : Prop :=
  ∃ a cap, v = .slice a n cap ∧ n ≤ cap ∧ n ≤ 9223372036854775807 ∧ (∀ i, i < n → (x i).ok) ∧ (n ≠ 0 → ∃ b o, a = some ⟨b, o, none⟩ ∧ ∀ i, i < n → w.cell? ⟨b, o + i * 4, none⟩ = some (.int .i64 (x i).addr) ∧ w.cell? ⟨b, o + i * 4 + 1, none⟩ = some (.int .i64 (x i).bits) ∧ w.cell? ⟨b, o + i * 4 + 2, none⟩ = some (.int .i64 (x i).via) ∧ w.cell? ⟨b, o + i * 4 + 3, none⟩ = some (.int .i64 (x i).face))

theorem RdF.stay {w w' : World} {v : Value} {n : Nat} {x : Nat → Fr} (hb : Below w.heap.size w w') (h : RdF w v n x) : RdF w' v n x := by
  obtain ⟨a', c', e', g1, g2, g3, g4⟩ := h
  refine ⟨a', c', e', g1, g2, g3, fun hn => ?_⟩
  obtain ⟨b, o, e'', hc⟩ := g4 hn
  exact ⟨b, o, e'', fun i hi => ⟨keep hb (hc i hi).1, keep hb (hc i hi).2.1, keep hb (hc i hi).2.2⟩⟩
theorem RdW.stay {w w' : World} {v : Value} {n : Nat} {x : Nat → Rr} (hb : Below w.heap.size w w') (h : RdW w v n x) : RdW w' v n x := by
  obtain ⟨a', c', e', g1, g2, g3, g4⟩ := h
  refine ⟨a', c', e', g1, g2, g3, fun hn => ?_⟩
  obtain ⟨b, o, e'', hc⟩ := g4 hn
  exact ⟨b, o, e'', fun i hi => ⟨keep hb (hc i hi).1, keep hb (hc i hi).2.1, keep hb (hc i hi).2.2.1, keep hb (hc i hi).2.2.2⟩⟩

def mnF (x y : Int) : Int := min x y
def rbF (k : Int) : Int := if k = 0 then 0 else if k = 1 then 7 else if k = 2 then 8 else if k = 3 then 13 else if k = 4 then 16 else if k = 5 then 23 else if k = 6 then 24 else 32
theorem rbF_bd (k : Int) : 0 ≤ rbF k ∧ rbF k ≤ 32 := by unfold rbF; (repeat' split) <;> omega
def rtA (x : Rr) : Int := 167772160 + pk (x.addr.tdiv 16) 8 * 65536 + pk x.addr 16 * 256
def rtFace (fs : List If) (x : Rr) : Int := pk x.face fs.length
def viaN (fs : List If) (x : Rr) : Int := (ifAt fs (rtFace fs x).toNat).na + pk x.via ((2:Int) ^ (mnF 8 (32 - (ifAt fs (rtFace fs x).toNat).nb)).toNat)
def rtVia (fs : List If) (x : Rr) : Int := if x.via.tmod 3 ≠ 0 ∧ locB fs (viaN fs x) = false then viaN fs x else 0
def mkRoute (fs : List If) (x : Rr) : Rt := ⟨nt (rtA x) (rbF (pk x.bits 8)), rbF (pk x.bits 8), rtVia fs x, rtFace fs x⟩
def routesTo (fs : List If) (x : Nat → Rr) (k : Nat) : List Rt := (List.range k).map fun i => mkRoute fs (x i)
def routesF (fs : List If) (n : Nat) (x : Nat → Rr) : List Rt := routesTo fs x (min n 8)
theorem routesTo_succ (fs : List If) (x : Nat → Rr) (k : Nat) : routesTo fs x (k + 1) = routesTo fs x k ++ [mkRoute fs (x k)] := by simp [routesTo, List.range_succ]
theorem routesTo_len (fs : List If) (x : Nat → Rr) (k : Nat) : (routesTo fs x k).length = k := by simp [routesTo]
theorem rtA_bd (x : Rr) : 167772160 ≤ rtA x ∧ rtA x ≤ 168300000 := by
  have h1 := pk_bd (x.addr.tdiv 16) 8 (by omega)
  have h2 := pk_bd x.addr 16 (by omega)
  unfold rtA; omega

theorem table8_cell {w : World} {b : Nat} (h : w.heap[b]? = some (.cells #[.int .i64 0, .int .i64 7, .int .i64 8, .int .i64 13, .int .i64 16, .int .i64 23, .int .i64 24, .int .i64 32] 3)) (y : Int) (h0 : 0 ≤ y) (h1 : y < 8) : w.cell? ⟨b, y.toNat, none⟩ = some (.int .i64 (rbF y)) := by
  obtain rfl | rfl | rfl | rfl | rfl | rfl | rfl | rfl : y = 0 ∨ y = 1 ∨ y = 2 ∨ y = 3 ∨ y = 4 ∨ y = 5 ∨ y = 6 ∨ y = 7 := by omega
  all_goals simp [World.cell?, h, rbF]

theorem run_mn (x y : Int) (w : World) : (Builtin.min_ #[3, 3] 3 #[.int .i64 x, .int .i64 y]).run Try.prog w = .ok (.int .i64 (mnF x y)) w := by
  have e : mnF x y = if y < x then y else x := by unfold mnF; split <;> omega
  rw [e]
  simp [go_sem]
theorem mn_bd (b : Int) (h1 : 8 ≤ b) (h2 : b ≤ 28) : 0 ≤ mnF 8 (32 - b) ∧ mnF 8 (32 - b) ≤ 8 := by unfold mnF; omega
theorem mn_pow (b : Int) (h1 : 8 ≤ b) (h2 : b ≤ 28) : 1 ≤ (2:Int) ^ (mnF 8 (32 - b)).toNat ∧ (2:Int) ^ (mnF 8 (32 - b)).toNat ≤ 4294967296 := by
  have := mn_bd b h1 h2
  have h := pow_bd (32 - mnF 8 (32 - b)) (by omega) (by omega)
  rwa [show (32 - (32 - mnF 8 (32 - b))) = mnF 8 (32 - b) by omega] at h
theorem mn_wrap (b : Int) (h1 : 8 ≤ b) (h2 : b ≤ 28) : wrap64 ((2:Int) ^ (mnF 8 (32 - b)).toNat) = (2:Int) ^ (mnF 8 (32 - b)).toNat := by
  have := mn_pow b h1 h2
  exact wrap_in _ (by omega) (by omega)
theorem mn_pick (b vi : Int) (h1 : 8 ≤ b) (h2 : b ≤ 28) : 0 ≤ pk vi ((2:Int) ^ (mnF 8 (32 - b)).toNat) ∧ pk vi ((2:Int) ^ (mnF 8 (32 - b)).toNat) ≤ 4294967296 := by
  have := mn_pow b h1 h2
  have h := pk_bd vi ((2:Int) ^ (mnF 8 (32 - b)).toNat) (by omega)
  omega
theorem mn_call (b vi : Int) (hv : i64 vi) (h1 : 8 ≤ b) (h2 : b ≤ 28) (w : World) :
    Calls Try.prog 11 #[.int .i64 vi, .int .i64 ((2:Int) ^ (mnF 8 (32 - b)).toNat)] w fun e w' => e = .returned (.int .i64 (pk vi ((2:Int) ^ (mnF 8 (32 - b)).toNat))) ∧ Below w.heap.size w w' := by
  have := mn_pow b h1 h2
  exact pick_any vi _ w hv (by omega)

theorem rtc_one (r : Rt) : ∀ u ∈ rtc r, u.oneCell' = true := by
  intro u hu; simp [rtc] at hu; rcases hu with h | h | h | h <;> (subst h; rfl)
theorem news4 (w : World) (r : Rt) (t : TypeId) : ∀ j u, (rtc r)[j]? = some u → (w.alloc (.cells #[.int .i64 r.na, .int .i64 r.nb, .int .i64 r.via, .int .i64 r.face] t)).cell? ((⟨w.heap.size, 0, none⟩ : Addr).add j) = some u := by
  intro j u hj
  have hj4 : j < 4 := by
    rcases Nat.lt_or_ge j 4 with h | h
    · exact h
    · rw [List.getElem?_eq_none (by simp [rtc]; omega)] at hj; cases hj
  obtain rfl | rfl | rfl | rfl : j = 0 ∨ j = 1 ∨ j = 2 ∨ j = 3 := by omega
  all_goals (simp [rtc] at hj; subst hj; simp [Addr.add])
theorem rlocal_r {fs : List If} {x i : Int} {b : Bool} (h1 : locI fs x = i) (h2 : locB fs x = b) (v : Value) (w : World) (hF : RdI w v fs) :
    Calls Try.prog 18 #[v, .int .i64 x] w fun e w' => e = .returned (.tuple #[.int .i64 i, .bool b]) ∧ Below w.heap.size w w' := by
  have := rlocal_any fs v x w hF
  rw [h1, h2] at this
  exact this

end Go.Proofs.Ytkhhmoijjidbbaa
