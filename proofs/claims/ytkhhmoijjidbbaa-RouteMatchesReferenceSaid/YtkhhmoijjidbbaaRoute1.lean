/- Contracts of package route, first part: IsLocal, isUnicast, ValidInterface, validRoute. -/
import Derived.Test.YtkhhmoijjidbbaaAddr
import Derived.Test.YtkhhmoijjidbbaaRouteData
namespace Go.Proofs.Ytkhhmoijjidbbaa
open Go.RowKit Go.Sort
set_option linter.unusedVariables false

theorem uni_any (a : Int) (w : World) :
    Calls Try.prog 26 #[.int .i64 a] w fun e w' => e = .returned (.bool (uniB a)) ∧ Below w.heap.size w w' := by
  go_enter Try.func26, Try.ntmps26
  go_wp2
  all_goals go_ret
  all_goals exact ⟨ret_bool (by rw [Bool.eq_iff_iff]; simp [uniB]; omega), Below.refl _ _⟩

set_option maxHeartbeats 1000000 in
theorem isLocal_any (fs : List If) (v : Value) (x : Int) (w : World) (h : RdI w v fs) :
    Calls Try.prog 17 #[v, .int .i64 x] w fun e w' => e = .returned (.tuple #[.int .i64 (locI fs x), .bool (locB fs x)]) ∧ Below w.heap.size w w' := by
  obtain ⟨a, cap, rfl, hcap, hlen, hp⟩ := h
  have HP := Lib.hid hp
  clear hp
  go_enter Try.func17, Try.ntmps17
  go_wp2
  go_loopw [10] (fun i wr => ∃ k : Nat, k ≤ fs.length ∧ i = .int .i64 k ∧ (∀ j, j < k → (ifAt fs j).addr ≠ x) ∧ Below w.heap.size w wr) (fun i _ => fs.length - (intOf i).toNat)
  case atStart => exact ⟨0, Nat.zero_le _, rfl, fun j hj => by omega, Below.refl _ _⟩
  case round =>
    obtain ⟨k, hk, rfl, hno, hb⟩ := hrel
    have HN := Lib.hid hno
    clear hno
    by_cases hlt : k < fs.length
    · obtain ⟨b, o, rfl, hc⟩ := HP.out (by omega)
      obtain ⟨c0, c1, c2, c3, c4⟩ := (hc k hlt).stay hb
      clear hc
      by_cases he : (ifAt fs k).addr = x
      · have HF := Lib.hid (loc_found fs x k hlt HN.out he)
        have he' : ((ifAt fs k).addr == x) = true := by simpa using he
        clear he
        go_wp2
        go_ret2
        exact ⟨by simp [locI, locB, HF.out], (hb.alloc hb.size _)⟩
      · have he' : ((ifAt fs k).addr == x) = false := by simpa using he
        have HE := Lib.hid he
        clear he
        go_wp2
        go_roundw
        case rel => exact ⟨k + 1, by omega, by go_num, fun j hj => by
          by_cases hjk : j = k
          · subst hjk; exact HE.out
          · exact HN.out j (by omega), hb.alloc hb.size _⟩
        case measure => simp [intOf]; omega
    · have HF := Lib.hid (loc_none fs x (fun j hj => HN.out j (by omega)))
      go_wp2
      go_ret2
      exact ⟨by simp [locI, locB, HF.out], hb⟩

def viB (x : If) : Bool := decide (1 ≤ x.mac ∧ x.mac ≤ 65534) && (uniB x.addr && (vpB x.na x.nb && (conB x.na x.nb x.addr && decide (68 ≤ x.mtu ∧ x.mtu ≤ 1024))))
abbrev ifV (x : If) : Value := .agg #[.int .i64 x.mac, .int .i64 x.addr, .int .i64 x.na, .int .i64 x.nb, .int .i64 x.mtu]
abbrev rtV (x : Rt) : Value := .agg #[.int .i64 x.na, .int .i64 x.nb, .int .i64 x.via, .int .i64 x.face]

set_option maxHeartbeats 1000000 in
theorem validInterface_any (x : If) (w : World) :
    Calls Try.prog 19 #[ifV x] w fun e w' => e = .returned (.bool (viB x)) ∧ Below w.heap.size w w' := by
  obtain ⟨mac, addr, na, nb, mtu⟩ := x
  go_enter Try.func19, Try.ntmps19
  have hB := (Below.refl w.heap.size w).alloc (Nat.le_refl _) (.cells #[.int .i64 mac, .int .i64 addr, .int .i64 na, .int .i64 nb, .int .i64 mtu] 27)
  go_wp2_with (first
    | (go_at_call 26; refine (uni_any _ _).mono ?_; rintro e w1 ⟨rfl, hb⟩; have c1 := keep hb (a := ⟨w.heap.size, 1, none⟩) (v := .int .i64 addr) (by simp); have c2 := keep hb (a := ⟨w.heap.size, 2, none⟩) (v := .int .i64 na) (by simp); have c3 := keep hb (a := ⟨w.heap.size, 3, none⟩) (v := .int .i64 nb) (by simp); have c4 := keep hb (a := ⟨w.heap.size, 4, none⟩) (v := .int .i64 mtu) (by simp); replace hB := below_mid hB hb; clear hb)
    | (go_at_call 33; refine (validPrefix_any _ _ _).mono ?_; rintro e w2 ⟨rfl, hb⟩; replace c1 := keep hb c1; replace c2 := keep hb c2; replace c3 := keep hb c3; replace c4 := keep hb c4; replace hB := below_mid hB hb; clear hb)
    | (go_at_call 21; refine (contains_any _ _ _ _).mono ?_; rintro e w3 ⟨rfl, hb⟩; replace c1 := keep hb c1; replace c2 := keep hb c2; replace c3 := keep hb c3; replace c4 := keep hb c4; replace hB := below_mid hB hb; clear hb))
  all_goals go_ret
  all_goals refine ⟨ret_bool ?_, hB⟩
  all_goals rw [Bool.eq_iff_iff]
  all_goals simp only [viB, Bool.and_eq_true, decide_eq_true_eq]
  all_goals simp [*]
  all_goals omega

end Go.Proofs.Ytkhhmoijjidbbaa
