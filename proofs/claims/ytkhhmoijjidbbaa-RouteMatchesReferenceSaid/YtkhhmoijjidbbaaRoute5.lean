/- Contracts of package route, fifth part: the iterator candidates, and best. -/
import Derived.RangeFuncNested
import Derived.RangeFuncBound
import Derived.RangeFuncCalls
import Derived.RangeFuncLeaves
import Derived.RangeFuncFrom
import Derived.Shelf.Abstract
import Derived.Shelf.RegionOpen
import Derived.Stop.RegionWithIn
import Derived.Sort.BigQuietIn
import Derived.Lib.QuietBelowIn
import Derived.OwnWalkIn
import Derived.TacticsInMore
import Derived.LoopNIn
import Derived.LoopIn
import Derived.Test.YtkhhmoijjidbbaaRoute4
namespace Go.Proofs.Ytkhhmoijjidbbaa
open Go.RowKit Go.Sort Go.Shelf
set_option linter.unusedVariables false
attribute [local go_sem] Oper.semAt_some

theorem grownBy_of_below {w w' : World} (h : Below w.heap.size w w') : w.grownBy w' none :=
  ⟨h.os, h.tape, h.output, h.size, fun k hk _ => h.block k hk⟩

/-- Which networks contain the destination, among the first k. -/
def isCand (fs : List If) (rs : List Rt) (to : Int) (k : Nat) : Bool := conB (netA fs rs k) (netB fs rs k) to
def candsTo (fs : List If) (rs : List Rt) (to : Int) (N : Nat) (k : Nat) : List (Fin N) := ((List.finRange N).take k).filter (fun i => isCand fs rs to i.1)

theorem finRange_take_succ (N k : Nat) (h : k < N) : (List.finRange N).take (k + 1) = (List.finRange N).take k ++ [⟨k, h⟩] := by
  rw [List.take_succ_eq_append_getElem (by simpa using h)]
  simp
theorem candsTo_yes (fs : List If) (rs : List Rt) (to : Int) (N k : Nat) (h : k < N) (hc : isCand fs rs to k = true) : candsTo fs rs to N (k + 1) = candsTo fs rs to N k ++ [⟨k, h⟩] := by
  unfold candsTo; rw [finRange_take_succ N k h, List.filter_append]; simp [hc]
theorem candsTo_no (fs : List If) (rs : List Rt) (to : Int) (N k : Nat) (h : k < N) (hc : isCand fs rs to k = false) : candsTo fs rs to N (k + 1) = candsTo fs rs to N k := by
  unfold candsTo; rw [finRange_take_succ N k h, List.filter_append]; simp [hc]
theorem candsTo_len (fs : List If) (rs : List Rt) (to : Int) (N k : Nat) : (candsTo fs rs to N k).length ≤ k := by
  unfold candsTo
  refine Nat.le_trans (List.length_filter_le _ _) ?_
  simp; omega

theorem contains_r {a b x : Int} {r : Bool} (h : conB a b x = r) (w : World) :
    Calls Try.prog 21 #[.agg #[.int .i64 a, .int .i64 b], .int .i64 x] w fun e w' => e = .returned (.bool r) ∧ Below w.heap.size w w' := h ▸ contains_any a b x w

theorem two_ways {A B : Prop} {e : Ending} (h : (e = .returned (.bool true) ∧ A) ∨ (e = .returned (.bool false) ∧ B)) : ∃ bb : Bool, e = .returned (.bool bb) ∧ ((bb = true → A) ∧ (bb = false → B)) := by
  rcases h with ⟨h1, h2⟩ | ⟨h1, h2⟩
  · exact ⟨true, h1, fun _ => h2, fun h => by cases h⟩
  · exact ⟨false, h1, (fun h => by cases h), fun _ => h2⟩

set_option maxRecDepth 100000 in
set_option maxHeartbeats 2000000 in
theorem cand1_in (n : Nat) (hn : 1 ≤ n) (l : Nat) (fs : List If) (rs : List Rt) (v u : Value) (p q m r t n₀ N : Nat) (to : Int) (hN : N = fs.length + rs.length) (hN' : N ≤ 2000)
    (J Jx : List (Fin N) → World → Prop) (W : World)
    (hJ : AbidesFrom W.heap.size J)
    (hY : ∀ pre x W1, J pre W1 → pre.length < N → YieldAt Fence.wide (n - 1) Try.prog l #[.int .i64 (x.1 : Nat)] W1 fun e W' =>
      (e = .returned (.bool true) ∧ J (pre ++ [x]) W' ∧ Below n₀ W1 W') ∨ (e = .returned (.bool false) ∧ Jx (pre ++ [x]) W'))
    (hn0 : n₀ ≤ W.heap.size)
    (hM : ∀ W', Below n₀ W W' → W'.cell? ⟨m, 0, none⟩ = some (.int .i64 (N : Nat)) ∧ W'.cell? ⟨r, 0, none⟩ = some (netV p q) ∧ W'.cell? ⟨t, 0, none⟩ = some (.int .i64 to) ∧ W'.cell? ⟨p, 0, none⟩ = some v ∧ W'.cell? ⟨q, 0, none⟩ = some u ∧ RdI W' v fs ∧ RdR W' u rs)
    (h0 : J [] W) :
    CallsIn Fence.wide n Try.prog 37 #[.func (.yield l) #[] #[], .pointer (some ⟨m, 0, none⟩), .pointer (some ⟨r, 0, none⟩), .pointer (some ⟨t, 0, none⟩)] W fun e W' => (∃ v, e = .returned v) ∧
      ((∃ ys, ys = candsTo fs rs to N N ∧ J ys W') ∨ (∃ pre, True ∧ Jx pre W')) := by
  have HM := Lib.hid hM
  have HN := Lib.hid hN
  have HJ := Lib.hid hJ
  have HY := Lib.hid hY
  obtain ⟨c0, _, _, _⟩ := hM W (Below.refl _ _)
  clear hM hJ hY hN
  have hmx : Try.prog.follows .mixedOrders = true := by kernel_rfl
  refine callsIn_of_wp Try.func37 rfl trivial ?_ rfl
  simp only [Try.ntmps37, List.size_toArray, List.length_cons, List.length_nil, Nat.reduceAdd, Nat.reduceSub, Array.replicate_succ, Array.replicate_zero, List.push_toArray, List.append_toArray, List.nil_append, List.cons_append]
  gi_wp2
  clear c0
  gi_loopw [7] (fun i wr => ∃ k : Nat, k ≤ N ∧ i = .int .i64 k ∧ J (candsTo fs rs to N k) wr ∧ Below n₀ W wr) (fun i _ => N - (intOf i).toNat)
  case atStart => exact ⟨0, Nat.zero_le _, rfl, by simpa [candsTo] using h0, Below.refl _ _⟩
  case round =>
    obtain ⟨k, hk, rfl, hJs, hnx⟩ := hrel
    by_cases hlt : k < N
    · obtain ⟨c0, c1, c2, c3, c4, hF, hG⟩ := HM.out wr hnx
      cases hc : isCand fs rs to k
      case false =>
        have n1 := fun (m' : Nat) (W' : World) (hb : Below wr.heap.size wr W') => callsIn_wide (n := m').2 (net1_any fs rs v u p q k W' (hF.stay hb) (hG.stay hb) (keep hb c3) (keep hb c4) (by have := HN.out; omega))
        have N1 := Lib.hid n1
        clear n1
        have k1 := cell_regrown c1
        have k2 := cell_regrown c2
        gi_wp2
        refine wpIn_region_quiet_below rfl hmx (by kernel_rfl) ?_
        repeat (first
          | gi_big_quiet_step (fail)
          | (refine wpQuietIn_step (fun _ _ _ _ => trivial) (fun K hK => ?_); go_simp; refine hK _ ?_; clear hK K)
          | (refine wpQuietIn_step (fun _ _ _ _ => trivial) (fun K hK => ?_); go_simp; apply Exists.intro; refine ⟨fun _ => ?_, hK _ ?_⟩; (first
            | (gi_at_call 27; exact CallsIn.regrown_of (N1.out _ _ (below_regrown _ _ _)))
            | (gi_at_call 21; exact CallsIn.regrown_of (callsIn_wide.2 (contains_r hc _)))); clear hK K))
        refine wpQuietIn_nil ?_
        rintro w3 ⟨⟨dq, osq⟩, rfl⟩
        have hb3 := below_regrown wr dq osq
        generalize grow (redrawn wr dq) osq = w3 at *
        clear k1 k2
        gi_wp2
        go_roundw
        case rel => exact ⟨k + 1, by omega, by go_num, by rw [candsTo_no fs rs to N k hlt hc]; exact HJ.out _ _ _ none hJs (grownBy_of_below hb3) (fun r e => by cases e), hnx.trans (hb3.mono (Nat.le_trans hn0 hnx.size))⟩
        case measure => simp [intOf]; omega
      case true =>
        have n1 := fun (m' : Nat) (W' : World) (hb : Below wr.heap.size wr W') => callsIn_wide (n := m').2 (net1_any fs rs v u p q k W' (hF.stay hb) (hG.stay hb) (keep hb c3) (keep hb c4) (by have := HN.out; omega))
        have N1 := Lib.hid n1
        have y1 := fun (W' : World) (hb : Below wr.heap.size wr W') => HY.out _ ⟨k, hlt⟩ W' (HJ.out _ _ _ none hJs (grownBy_of_below hb) (fun r e => by cases e)) (Nat.lt_of_le_of_lt (candsTo_len fs rs to N k) hlt)
        have Y1 := Lib.hid y1
        clear n1 y1
        gi_wp2
        gi_region_with (first
          | (refine ⟨trivial, ?_⟩; gi_at_call 27; refine (N1.out _ _ ((Below.refl _ _).drew)).mono ?_; rintro e w1 ⟨rfl, hb1⟩; have c2' := keep hb1 (w := wr.drew) c2)
          | (refine ⟨trivial, ?_⟩; gi_at_call 21; refine (callsIn_wide.2 (contains_r hc _)).mono ?_; rintro e w2 ⟨rfl, hb2⟩; obtain ⟨fn, tmps, assign, body, hy, hR⟩ := Y1.out w2 (below_mid (below_mid ((Below.refl wr.heap.size wr).drew) hb1) hb2))
          | (refine hR.mono ?_; intro e W3 h3; obtain ⟨bb, rfl, hbb⟩ := two_ways h3; have HBB := Lib.hid hbb; clear h3 hbb hy hR))
        all_goals
          have hw2 : Below n₀ W w2 := hnx.trans ((below_mid (below_mid ((Below.refl wr.heap.size wr).drew) hb1) hb2).mono (Nat.le_trans hn0 hnx.size))
          cases bb
          case true =>
            gi_wp2
            go_roundw
            case rel => exact ⟨k + 1, by omega, by go_num, by rw [candsTo_yes fs rs to N k hlt hc]; exact (HBB.out.1 (by simp)).1, hw2.trans (HBB.out.1 (by simp)).2⟩
            case measure => simp [intOf]; omega
          case false =>
            gi_wp2
            refine bodyPost_ret (results_none rfl _ _ _) rfl ?_
            exact ⟨⟨_, rfl⟩, .inr ⟨_, HBB.out.2 (by simp)⟩⟩
    · obtain rfl : k = N := by omega
      gi_wp2
      go_end0
      exact ⟨⟨_, rfl⟩, .inl ⟨_, rfl, hJs⟩⟩

theorem cand_stops (n : Nat) (hn : 1 ≤ n) (fs : List If) (rs : List Rt) (v u : Value) (p q m r t n₀ N : Nat) (to : Int) (hN : N = fs.length + rs.length) (hN' : N ≤ 2000) (w : World)
    (hn0 : n₀ ≤ w.heap.size)
    (hM : ∀ W', Below n₀ w W' → W'.cell? ⟨m, 0, none⟩ = some (.int .i64 (N : Nat)) ∧ W'.cell? ⟨r, 0, none⟩ = some (netV p q) ∧ W'.cell? ⟨t, 0, none⟩ = some (.int .i64 to) ∧ W'.cell? ⟨p, 0, none⟩ = some v ∧ W'.cell? ⟨q, 0, none⟩ = some u ∧ RdI W' v fs ∧ RdR W' u rs) :
    SeqStopsK Fence.wide n Try.prog 37 #[.pointer (some ⟨m, 0, none⟩), .pointer (some ⟨r, 0, none⟩), .pointer (some ⟨t, 0, none⟩)] (fun x : Fin N => #[Value.int .i64 (x.1 : Nat)]) (Below n₀) (fun ys => ys = candsTo fs rs to N N) (fun _ => True) N w := by
  intro l J Jx W hW hJ hJx hY h0
  have h1 : Below n₀ w W := hW.mono hn0
  exact cand1_in n hn l fs rs v u p q m r t n₀ N to hN hN' J Jx W hJ hY (Nat.le_trans hn0 hW.size) (fun W' hb => hM W' (h1.trans hb)) h0

end Go.Proofs.Ytkhhmoijjidbbaa
