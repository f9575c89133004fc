/- Contracts of package ranges, third part: the iterator each. -/
import Derived.Shelf.Abstract
import Derived.Shelf.RegionOpen
import Derived.Stop.RegionWithIn
import Derived.Sort.BigQuietIn
import Derived.Lib.QuietBelowIn
import Derived.OwnWalkIn
import Derived.TacticsInMore
import Derived.LoopNIn
import Derived.LoopIn
import Derived.Test.YthkkhgfdppbphaaSeq
import Derived.Test.YthkkhgfdppbphaaSpanB
namespace Go.Proofs.Ythkkhgfdppbphaa
open Go.RowKit Go.Sort Go.Shelf
set_option linter.unusedVariables false
attribute [local go_sem] Oper.semAt_some

theorem two_ways {A B : Prop} {e : Ending} (h : (e = .returned (.bool true) ∧ A) ∨ (e = .returned (.bool false) ∧ B)) : ∃ bb : Bool, e = .returned (.bool bb) ∧ ((bb = true → A) ∧ (bb = false → B)) := by
  rcases h with ⟨h1, h2⟩ | ⟨h1, h2⟩
  · exact ⟨true, h1, fun _ => h2, fun h => by cases h⟩
  · exact ⟨false, h1, (fun h => by cases h), fun _ => h2⟩

abbrev encE (l : List Sp) (i : Nat) : Array Value := #[.int .i64 (i : Nat), spV (spAt l i)]
def nxE (l : List Sp) (pre : List Nat) (i : Nat) : Prop := i = pre.length ∧ i < l.length

set_option maxRecDepth 100000 in
set_option maxHeartbeats 2000000 in
theorem each_in (n : Nat) (hn : 1 ≤ n) (l : List Sp) (v : Value) (B0 : Nat) (w : World) (hB0 : B0 ≤ w.heap.size) (hR : ∀ W, Below B0 w W → RdS W v l) :
    SeqFirst Fence.wide n Try.prog 32 #[v] (encE l) B0 (fun xs => xs.length = l.length) (fun _ => True) (nxE l) w := by
  intro lp J Jx W hW hJ hJx hY h0
  have hW0 : Below B0 w W := hW.mono hB0
  have hBW : B0 ≤ W.heap.size := Nat.le_trans hB0 hW.size
  have HR := Lib.hid (fun W' hb => hR W' (hW0.trans hb))
  have HJ := Lib.hid hJ
  have HY := Lib.hid hY
  obtain ⟨a, cap, rfl, hcap, hlen, _⟩ := HR.out W (Below.refl _ _)
  clear hJ hJx hY hR hW hW0
  refine callsIn_of_wp Try.func32 rfl trivial ?_ rfl
  simp only [Try.ntmps32, List.size_toArray, List.length_cons, List.length_nil, Nat.reduceAdd, Nat.reduceSub, Array.replicate_succ, Array.replicate_zero, List.push_toArray, List.append_toArray, List.nil_append, List.cons_append]
  gi_wp2
  gi_loopw [8] (fun i wr => ∃ pre : List Nat, pre.length ≤ l.length ∧ i = .int .i64 (pre.length : Nat) ∧ J pre wr ∧ Below B0 W wr) (fun i _ => l.length - (intOf i).toNat)
  case atStart => exact ⟨[], Nat.zero_le _, rfl, h0, Below.refl _ _⟩
  case round =>
    obtain ⟨pre, hk, rfl, hJs, hnx⟩ := hrel
    obtain ⟨k, hkk⟩ : ∃ k, k = pre.length := ⟨_, rfl⟩
    rw [← hkk] at hk ⊢
    have HK := Lib.hid hkk
    clear hkk
    by_cases hlt : k < l.length
    · obtain ⟨a', cap', e, _, _, hp⟩ := HR.out wr hnx
      cases e
      obtain ⟨b, o, rfl, hc⟩ := hp (by omega)
      obtain ⟨c0, c1⟩ := hc k hlt
      clear hp hc
      have hkc : k ≤ cap := by omega
      have HX := Lib.hid (show encE l k = #[.int .i64 k, spV (spAt l k)] from rfl)
      have hws : B0 ≤ wr.heap.size := Nat.le_trans hBW hnx.size
      have hal := (Below.refl wr.heap.size wr).alloc (Nat.le_refl _) (.cells #[.int .i64 (spAt l k).fr, .int .i64 (spAt l k).to] 24)
      have Y1 := Lib.hid (HY.out pre k _ (HJ.out _ _ _ none hJs (grownBy_of_below hal none) (fun r e => by cases e)) ⟨HK.out, hlt⟩)
      have hnx2 := hnx.trans (hal.mono hws)
      clear hal
      generalize spAt l k = x at *
      obtain ⟨fr, to⟩ := x
      simp only at c0 c1
      rw [HX.out] at Y1
      clear HX
      obtain ⟨fn, tmps, asg, bdy, hy, hRd⟩ := Y1.out
      have HRD := Lib.hid hRd
      clear Y1 hRd
      gi_wp2_with ((refine HRD.out.mono ?_; intro e W3 h3; obtain ⟨bb, rfl, hbb⟩ := two_ways h3; have HBB := Lib.hid hbb; clear h3 hbb hy HRD))
      · obtain rfl : bb = false := by rename_i hh; simpa using hh
        refine bodyPost_ret (results_none rfl _ _ _) rfl ?_
        exact ⟨⟨_, rfl⟩, .inr ⟨_, trivial, HBB.out.2 (by simp)⟩⟩
      · obtain rfl : bb = true := by rename_i hh; simpa using hh
        go_roundw
        case rel => exact ⟨pre ++ [k], by have := HK.out; simp; omega, by have := HK.out; simp [← this], (HBB.out.1 (by simp)).1, hnx2.trans (HBB.out.1 (by simp)).2⟩
        case measure => simp [intOf]; omega
    · gi_wp2
      go_end0
      exact ⟨⟨_, rfl⟩, .inl ⟨pre, by have := HK.out; omega, hJs⟩⟩

end Go.Proofs.Ythkkhgfdppbphaa
