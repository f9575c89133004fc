/- The iterator all of a cache. Printed by wip/tools/gen20l.py. -/
import Derived.Test.YtbhglemolpfnkaaGreatDoorBe
import Derived.Test.YtbhglemolpfnkaaGreatDoorLab
set_option linter.unusedVariables false
set_option maxRecDepth 100000
set_option maxHeartbeats 32000000
namespace Go.Proofs.YtbhglemolpfnkaaGreatDoor
open Go.RowKit Go.Sort
attribute [local go_sem] Oper.semAt_some

abbrev encE (x : En) : Array Value := #[enV x]
theorem all_any (c : Nat) (w : World) : Calls Tryz.prog 148 #[.pointer (some ⟨c, 0, none⟩)] w fun e w' => e = .returned (.func (.func 171) #[] #[.pointer (some ⟨w.heap.size, 0, none⟩)]) ∧ w' = w.alloc (.cells #[.pointer (some ⟨c, 0, none⟩)] 232) := by
 go_enter Tryz.func148, Tryz.ntmps148
 go_wp2
 go_ret
 exact ⟨rfl, rfl⟩
theorem all_in (n : Nat) (hn : 1 ≤ n) (l' N b c : Nat) (v : Value) (l : List En) (hN : l.length ≤ N) (hl : l.length ≤ 1000) (J Jx : List En → World → Prop) (D : Nat → Prop) (w W : World) (hbW : Below w.heap.size w W) (hJ : AbidesFrom W.heap.size J)
    (hY : ∀ pre x W1, J pre W1 → pre.length < N → YieldAt Fence.wide (n - 1) Tryz.prog l' (encE x) W1 fun e W' => (e = .returned (.bool true) ∧ J (pre ++ [x]) W' ∧ kpO D w W1 W') ∨ (e = .returned (.bool false) ∧ Jx (pre ++ [x]) W'))
    (hM : ∀ W', kpO D w w W' → W'.cell? ⟨b, 0, none⟩ = some (.pointer (some ⟨c, 0, none⟩)) ∧ W'.cell? ⟨c, 0, none⟩ = some v ∧ W'.ownsRow 0 201 5 v l.length (l.flatMap cEn)) (h0 : J [] W) :
    CallsIn Fence.wide n Tryz.prog 171 #[.func (.yield l') #[] #[], .pointer (some ⟨b, 0, none⟩)] W fun e W' => (∃ v, e = .returned v) ∧ ((∃ ys, ys = l ∧ J ys W') ∨ (∃ pre, pre <+: l ∧ Jx pre W')) := by
  have HY := Hi hY
  have HJ := Hi hJ
  have HM := Hi hM
  have HN := Hi hN
  have hk0 : kpO D w w W := Upd.of_below hbW
  have HK0 := Hi hk0
  obtain ⟨c0, c1, hrow⟩ := hM W hk0
  obtain ⟨a, cap, hv⟩ := row_shape hrow
  obtain ⟨m, hm⟩ : ∃ m, l.length = m := ⟨_, rfl⟩
  have HL := Hi hm
  rw [hm] at hv hl
  subst hv
  clear hY hJ hM hN hk0 hbW hrow hm
  refine callsIn_of_wp Tryz.func171 rfl trivial ?_ rfl
  simp only [Tryz.ntmps171, List.size_toArray, List.length_cons, List.length_nil, Nat.reduceAdd, Nat.reduceSub, Array.replicate_succ, Array.replicate_zero, List.push_toArray, List.append_toArray, List.nil_append, List.cons_append]
  gi_wp2
  clear c0 c1
  gi_loopw [10] (fun iv wr => ∃ k : Nat, k ≤ m ∧ iv = .int .i64 k ∧ J (l.take k) wr ∧ kpO D w w wr) (fun iv _ => m - (intOf iv).toNat)
  case atStart => exact ⟨0, Nat.zero_le _, rfl, h0, HK0.out⟩
  case round =>
    obtain ⟨k, hk, rfl, hJs, hkp⟩ := hrel
    have HJs := Hi hJs
    have HK := Hi hkp
    clear hJs hkp
    by_cases hlt : k < m
    · have hrow := (HM.out wr HK.out).2.2
      have hkl : k < l.length := by have := HL.out; omega
      rw [HL.out] at hrow
      obtain ⟨g, rfl⟩ := row_some hrow (by omega)
      have HT := Hi (List.take_succ_eq_append_getElem hkl)
      have HPL := Hi (show (l.take k).length < N by have := HN.out; rw [List.length_take]; omega)
      have HPX := Hi (List.take_prefix (k + 1) l)
      have yc : ∀ q u, q < 5 → (cEn l[k])[q]? = some u → wr.cell? ⟨g, k * 5 + q, none⟩ = some u := fun q u hq hu => (row_cells hrow).1 _ _ (by rw [flat_getR cEn 5 (fun _ => rfl) l k hkl q hq]; exact hu)
      generalize l[k] = x at *
      obtain ⟨nm, kd, ad, to, ex⟩ := x
      have y0 : wr.cell? ⟨g, k * 5, none⟩ = some (.string nm) := yc 0 _ (by decide) rfl
      have y1 : wr.cell? ⟨g, k * 5 + 1, none⟩ = some (.int .i64 kd) := yc 1 _ (by decide) rfl
      have y2 : wr.cell? ⟨g, k * 5 + 2, none⟩ = some (.int .i64 ad) := yc 2 _ (by decide) rfl
      have y3 : wr.cell? ⟨g, k * 5 + 3, none⟩ = some (.string to) := yc 3 _ (by decide) rfl
      have y4 : wr.cell? ⟨g, k * 5 + 4, none⟩ = some (.int .i64 ex) := yc 4 _ (by decide) rfl
      clear yc hkl hrow
      have HO := Hi (Own.nil wr none0)
      obtain ⟨x21, hx21, bx, hbx, hO⟩ := HO.out.allocE (.cells #[.string ⟨#[]⟩, .int .i64 0, .int .i64 0, .string ⟨#[]⟩, .int .i64 0] 201)
      replace HO := Hi (show Own wr none0 x21 [blkR bx (.cells #[.string ⟨#[]⟩, .int .i64 0, .int .i64 0, .string ⟨#[]⟩, .int .i64 0] 201)] from hO)
      clear hO
      obtain ⟨x27, x32, x36, x39, x41, hx27, hx32, hx36, hx39, hx41, k0_0_22, lk0_0_22, k0_1_28, lk0_1_28, k0_2_33, lk0_2_33, k0_3_37, lk0_3_37, k0_4_40, lk0_4_40, hO⟩ := HO.out.steps5 0 rfl (.string nm) (.int .i64 kd) (.int .i64 ad) (.string to) (.int .i64 ex)
      replace HO := Hi (show Own _ _ _ [blkR bx (.cells #[.string nm, .int .i64 kd, .int .i64 ad, .string to, .int .i64 ex] 201)] from hO)
      clear hO
      obtain ⟨z0_0, z0_1, z0_2, z0_3, z0_4⟩ := HO.out.c5 0 rfl
      have Y := Hi (HY.out (l.take k) ⟨nm, kd, ad, to, ex⟩ x41 (HJ.out _ _ _ none HJs.out (grownBy_below HO.out.below) (fun r e => by cases e)) HPL.out)
      have HKX := Hi (HK.out.trans (Upd.of_below HO.out.below))
      obtain ⟨fn, tmps, assign, body, hy, hR⟩ := Y.out
      gi_wp2_with (refine hR.mono ?_; intro e W3 h3; obtain ⟨bb, rfl, hbb⟩ := yield_ways h3; have HBB := Hi hbb; clear h3 hbb hy hR)
      all_goals first
        | (have hb0 : (!bb) = false := by assumption
           have hb : bb = true := by simpa using hb0
           go_roundw
           case rel => exact ⟨k + 1, by omega, by go_num, by rw [HT.out]; exact (HBB.out.1 hb).1, HKX.out.trans (HBB.out.1 hb).2⟩
           case measure => simp [intOf]; omega)
        | (have hb0 : (!bb) = true := by assumption
           have hb' : bb = false := by simpa using hb0
           refine bodyPost_ret (results_none rfl _ _ _) rfl ?_
           exact ⟨⟨_, rfl⟩, .inr ⟨_, HPX.out, by rw [HT.out]; exact HBB.out.2 hb'⟩⟩)
    · obtain rfl : k = m := by omega
      gi_wp2
      go_end0
      exact ⟨⟨_, rfl⟩, .inl ⟨_, rfl, by have := HJs.out; rwa [← HL.out, List.take_length] at this⟩⟩
theorem all_stops (n : Nat) (hn : 1 ≤ n) (N b c : Nat) (l : List En) (hN : l.length ≤ N) (hl : l.length ≤ 1000) (D DA : Nat → Prop) (w : World) (hA : Own w DA w [resC c l, blkR b (.cells #[.pointer (some ⟨c, 0, none⟩)] 232)]) (hd : ∀ b, DA b → ¬ D b) :
  SeqStopsK Fence.wide n Tryz.prog 171 #[.pointer (some ⟨b, 0, none⟩)] encE (kpO D w) (fun xs => xs = l) (fun pre => pre <+: l) N w := by
 intro l' J Jx W hW hJ hJx hY h0
 obtain ⟨v, hO⟩ := openC' hA
 have hO' : Own w DA w [blkC c v, rowE v l, blkR b (.cells #[.pointer (some ⟨c, 0, none⟩)] 232)] := hO
 refine all_in n hn l' N b c v l hN hl J Jx D w W hW hJ hY (fun W' hu => ?_) h0
 have h2 := hO'.apart hu (fun b hb hD hG => hG.elim (hd b hD) (fun h => by omega))
 exact ⟨h2.cell 2 rfl 0 rfl, h2.cell 0 rfl 0 rfl, h2.row 1 rfl⟩

end Go.Proofs.YtbhglemolpfnkaaGreatDoor
