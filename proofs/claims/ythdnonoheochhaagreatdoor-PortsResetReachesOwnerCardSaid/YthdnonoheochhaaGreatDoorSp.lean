/- Package segment: put, at a row with any capacity. -/
import Derived.Test.YthdnonoheochhaaGreatDoorSg1
namespace Go.Proofs.YthdnonoheochhaaGreatDoor
open Go.RowKit Go.Sort
set_option linter.unusedVariables false
set_option maxRecDepth 100000
set_option maxRecDepth 100000
attribute [local go_sem] Oper.semAt_some
set_option maxHeartbeats 2000000 in
theorem sputC (K : Nat) (hK : 0 < K) (ns : List Int) (N : Nat) (hN : ns.length = N) (hn0 : 0 < N) (hs : N * K ≤ 100000) (hput : ∀ n ∈ ns, ∀ w, Calls Tryz.prog 71 #[.int .i64 n, .int .i64 K] w fun e w' => e = .returned (.tuple #[.string ⟨(beN K n).toArray⟩, .int .i64 0]) ∧ Below w.heap.size w w') (w : World) (g : Nat) (cp : Nat) (hg : ∀ k (h : k < ns.length), w.cell? ⟨g, k, none⟩ = some (.int .i64 ns[k])) :
    Calls Tryz.prog 34 #[.int .i64 K, .slice (some ⟨g, 0, none⟩) N cp] w fun e w' => e = .returned (.string ⟨(putL K ns).toArray⟩) ∧ Below w.heap.size w w' := by
  have HO := Lib.hid (Own.nil w none0)
  have HP := Lib.hid hput
  have HG := Lib.hid hg
  have HN := Lib.hid hN
  have hNm : N ≤ 100000 := Nat.le_trans (Nat.le_mul_of_pos_right _ hK) hs
  clear hput hg hN
  obtain ⟨x1, hx1⟩ : ∃ y, w.alloc (.cells #[.pointer none, .slice none 0 0] 123) = y := ⟨_, rfl⟩
  obtain ⟨bb, hbb⟩ : ∃ y, w.heap.size = y := ⟨_, rfl⟩
  have hO := newBb HO.out
  rw [hx1, hbb] at hO
  replace HO := Lib.hid (show Own w none0 x1 [resB bb (putL K (ns.take 0))] from hO)
  clear hO
  go_enter Tryz.func34, Tryz.ntmps34
  go_wp2
  go_loopw [12] (fun iv wr => ∃ k : Nat, k ≤ N ∧ iv = .int .i64 k ∧ Own w none0 wr [resB bb (putL K (ns.take k))]) (fun iv _ => N - (intOf iv).toNat)
  case atStart => exact ⟨0, Nat.zero_le _, rfl, HO.out⟩
  case round =>
    obtain ⟨k, hk, rfl, hO⟩ := hrel
    replace HO := Lib.hid hO
    clear hO
    by_cases hlt : k < N
    · have hdl : decide ((k : Int) < (N : Int)) = true := decide_eq_true (by omega)
      have hkl : k < ns.length := by rw [HN.out]; exact hlt
      have yc : wr.cell? ⟨g, k, none⟩ = some (.int .i64 ns[k]) := keep HO.out.below (HG.out k hkl)
      have HP1 := Lib.hid (HP.out ns[k] (List.getElem_mem hkl))
      have hE := putL_next K ns k hkl
      have hln : (putL K (ns.take k)).length ≤ k * K := by rw [putL_len, List.length_take]; exact Nat.mul_le_mul_right _ (by omega)
      have hln2 : k * K + K ≤ N * K := by rw [← Nat.succ_mul]; exact Nat.mul_le_mul_right _ hlt
      have hsz : (⟨(beN K ns[k]).toArray⟩ : ByteArray).size = K := by rw [bytes_sz, beN_len]
      have HW := Lib.hid (fun (w' : World) (h : Own w none0 w' [resB bb (putL K (ns.take k))]) => (by have := writeStrB ⟨(beN K ns[k]).toArray⟩ h 0 rfl (by rw [hsz]; omega); rw [bytes_mk, ← hE] at this; exact this : Calls Tryz.prog 67 #[.pointer (some ⟨bb, 0, none⟩), .string ⟨(beN K ns[k]).toArray⟩] w' (OPost w none0 [resB bb (putL K (ns.take (k + 1)))] (.tuple #[.int .i64 (⟨(beN K ns[k]).toArray⟩ : ByteArray).size, .nilIface]) w')))
      generalize (⟨(beN K ns[k]).toArray⟩ : ByteArray) = s at *
      generalize ns[k] = n at *
      clear hE hln hln2 hkl
      go_wp2_with fail
      refine (o_still HO.out (HP1.out _)).mono ?_
      rintro e x2 ⟨rfl, hO, -⟩
      replace HO := Lib.hid hO
      clear hO yc
      go_wp2_with fail
      refine (HW.out _ HO.out).mono ?_
      rintro e x3 ⟨rfl, hO, -⟩
      replace HO := Lib.hid hO
      clear hO
      go_wp2
      go_roundw
      case rel => exact ⟨k + 1, by omega, by go_num, HO.out⟩
      case measure => simp [intOf]; omega
    · obtain rfl : k = N := by omega
      have hdl : decide ((k : Int) < (k : Int)) = false := decide_eq_false (by omega)
      have hE : ns.take k = ns := List.take_of_length_le (by rw [HN.out]; omega)
      have HO2 := Lib.hid (show Own w none0 wr [resB bb (putL K ns)] by have := HO.out; rwa [hE] at this)
      clear HO hE
      have hle := putL_len K ns
      rw [HN.out] at hle
      go_wp2_with fail
      refine (bStringB HO2.out 0 rfl (by omega) (fun h => by rw [h] at hle; have := Nat.mul_pos hn0 hK; simp at hle; omega)).mono ?_
      rintro e x2 ⟨rfl, hO, -⟩
      have HO := Lib.hid hO
      clear hO hle
      go_wp2
      go_ret
      exact ⟨rfl, HO.out.below⟩
end Go.Proofs.YthdnonoheochhaaGreatDoor
