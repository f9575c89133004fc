/- strings.Cut at a dot, and the pieces between the dots. The iterator labels: the pieces of a name. -/
import Derived.Shelf.RegionOpenPlain
import Derived.Lib.Walk
import Derived.Lib.Strings
import Derived.Lib.Slices
import Derived.Lib.Bytealg
import Derived.BigCall
import Derived.BigGuard
import Derived.Deep.Draws
import Derived.Laws.Strings3
import Derived.Lib.RabinKarpLaws
import Derived.Lib.CutLaws
import Derived.Test.YtbhglemolpfnkaaGreatDoorBa
import Derived.Test.YtbhglemolpfnkaaGreatDoorChecked
import Derived.Test.YtbhglemolpfnkaaGreatDoorBc
set_option linter.unusedVariables false
set_option maxRecDepth 100000
set_option maxHeartbeats 32000000
namespace Go.Proofs.YtbhglemolpfnkaaGreatDoor
open Go.RowKit Go.Sort

def cutD : List UInt8 → List UInt8 × List UInt8 × Bool
 | [] => ([], [], false)
 | b :: r => if b = 46 then ([], r, true) else (b :: (cutD r).1, (cutD r).2.1, (cutD r).2.2)
def pcs : List UInt8 → List (List UInt8)
 | [] => [[]]
 | b :: r => if b = 46 then [] :: pcs r else match pcs r with
  | [] => [[b]]
  | p :: ps => (b :: p) :: ps
theorem pcs_ne (l : List UInt8) : pcs l ≠ [] := by
  cases l with
  | nil => simp [pcs]
  | cons b r => simp only [pcs]; split
                · simp
                · split <;> simp
theorem pcs_cut (l : List UInt8) : pcs l = if (cutD l).2.2 = true then (cutD l).1 :: pcs (cutD l).2.1 else [(cutD l).1] := by
 induction l with
 | nil => rfl
 | cons b r ih =>
  simp only [pcs, cutD]
  by_cases h : b = 46
  ·
   simp [h]
  ·
   simp only [h, if_false]
   rw [ih]
   by_cases h2 : (cutD r).2.2 = true
   ·
    simp [h2]
   ·
    simp [h2]
theorem pcs_more {l : List UInt8} (h : (cutD l).2.2 = true) : pcs l = (cutD l).1 :: pcs (cutD l).2.1 := by rw [pcs_cut, if_pos h]
theorem pcs_last {l : List UInt8} (h : (cutD l).2.2 = false) : pcs l = [(cutD l).1] := by rw [pcs_cut, if_neg (by simp [h])]
theorem cutD_len (l : List UInt8) : (cutD l).2.1.length ≤ l.length ∧ ((cutD l).2.2 = true → (cutD l).2.1.length < l.length) ∧ (cutD l).1.length ≤ l.length := by
 induction l with
 | nil => simp [cutD]
 | cons b r ih =>
  simp only [cutD]
  split
  ·
   simp
  ·
   simp only [List.length_cons]; exact ⟨by omega, fun h => by have := ih.2.1 h; omega, by omega⟩
theorem idx_ge (l : List UInt8) : -1 ≤ Lib.indexByte l 46 := by
 induction l with
 | nil => simp [Lib.indexByte]
 | cons c r ih =>
  simp only [Lib.indexByte]
  split
  ·
   omega
  ·
   split <;> omega
theorem idx_miss {l : List UInt8} (h : Lib.indexByte l 46 = -1) : cutD l = (l, [], false) := by
 induction l with
 | nil => rfl
 | cons b r ih =>
  simp only [Lib.indexByte] at h
  split at h
  ·
   omega
  ·
   rename_i hb
   split at h
   ·
    rename_i h2
    have e := ih (by simpa using h2)
    have hb' : b ≠ 46 := by simpa using hb
    simp [cutD, hb', e]
   ·
    rename_i h2
    have := idx_ge r
    have h2' : Lib.indexByte r 46 ≠ -1 := by simpa using h2
    omega
theorem idx_hit {l : List UInt8} {i : Nat} (h : Lib.indexByte l 46 = i) : i < l.length ∧ cutD l = (l.take i, l.drop (i + 1), true) := by
 induction l generalizing i with
 | nil => exact absurd h (by simp only [Lib.indexByte]; omega)
 | cons b r ih =>
  simp only [Lib.indexByte] at h
  split at h
  ·
   rename_i hb
   have hb' : b = 46 := by simpa using hb
   obtain rfl : i = 0 := by omega
   simp [cutD, hb']
  ·
   rename_i hb
   have hb' : b ≠ 46 := by simpa using hb
   split at h
   ·
    omega
   ·
    rename_i h2
    have hge := idx_ge r
    have h2' : Lib.indexByte r 46 ≠ -1 := by simpa using h2
    obtain ⟨j, rfl⟩ : ∃ j, i = j + 1 := ⟨i - 1, by omega⟩
    obtain ⟨h1, h2⟩ := ih (i := j) (by omega)
    exact ⟨by simp only [List.length_cons]; omega, by simp [cutD, hb', h2]⟩
theorem idx_cases (l : List UInt8) : Lib.indexByte l 46 = -1 ∨ ∃ i : Nat, Lib.indexByte l 46 = i := by
 have := idx_ge l
 by_cases h : Lib.indexByte l 46 = -1
 ·
  exact .inl h
 ·
  exact .inr ⟨(Lib.indexByte l 46).toNat, by omega⟩
theorem sIndexByte_any (s : ByteArray) (c : Int) (w : World) : Calls Tryz.prog 193 #[.string s, .int .u8 c] w fun e w' => e = .returned (.int .i64 (Lib.indexByte s.data.toList c.toNat.toUInt8)) ∧ w = w' := by
 go_enter Tryz.func193, Tryz.ntmps193
 go_wp2
 rw [run_callFunc_extern Tryz.func214 (by kernel_rfl) (by kernel_rfl) (by kernel_rfl) (e := Extern.BytealgIndexByte.indexByte) (by kernel_rfl), Lib.run_indexByteString]
 simp only [Result.andThen]
 rw [Oper.upon_value]
 go_wp2
 go_ret
 exact ⟨rfl, rfl⟩
theorem sIndex_dot (s : ByteArray) (w : World) : Calls Tryz.prog 170 #[.string s, .string ⟨#[46]⟩] w fun e w' => e = .returned (.int .i64 (Lib.indexByte s.data.toList 46)) ∧ w = w' := by
 go_enter Tryz.func170, Tryz.ntmps170
 go_wp2_with (go_at_call 193; refine (sIndexByte_any _ _ _).mono ?_; rintro e w' ⟨rfl, rfl⟩)
 ·
  have h : ([46] == s.toList) = true := by assumption
  go_ret
  refine ⟨?_, rfl⟩
  have e : s.data.toList = [46] := by rw [← Lib.toList_data]; exact (beq_iff_eq.1 h).symm
  rw [e]
  simp [Lib.indexByte]
 ·
  go_ret
  exact ⟨rfl, rfl⟩
theorem cut_parts (s : ByteArray) (i : Nat) (h : i < s.size) : (⟨(s.data.toList.take i).toArray⟩ : ByteArray) = s.extract 0 i ∧ (⟨(s.data.toList.drop (i + 1)).toArray⟩ : ByteArray) = s.extract (i + 1) s.size := by
 have ht : List.take (s.size - (i + 1)) (List.drop (i + 1) s.data.toList) = List.drop (i + 1) s.data.toList := List.take_of_length_le (by rw [List.length_drop, ← Lib.size_eq]; exact Nat.le_refl _)
 refine ⟨?_, ?_⟩
 ·
  rw [Lib.extract_eq]; simp
 ·
  rw [Lib.extract_eq, ht]
abbrev cutV (l : List UInt8) : Value := .tuple #[.string ⟨(cutD l).1.toArray⟩, .string ⟨(cutD l).2.1.toArray⟩, .bool (cutD l).2.2]
theorem sCut_dot (s : ByteArray) (w : World) (hs : s.size ≤ maxLen) : Calls Tryz.prog 147 #[.string s, .string ⟨#[46]⟩] w fun e w' => e = .returned (cutV s.data.toList) ∧ Below w.heap.size w w' := by
 unfold maxLen at hs
 rcases idx_cases s.data.toList with hix | ⟨i, hix⟩
 ·
  have HE := Hi (idx_miss hix)
  have HX := Hi hix
  clear hix
  go_enter Tryz.func147, Tryz.ntmps147
  go_wp2_with (go_at_call 170; refine (sIndex_dot _ _).mono ?_; rintro e w' ⟨rfl, rfl⟩; rw [HX.out])
  go_ret3
  exact ⟨by simp only [cutV, HE.out]; simp, Below.refl _ _⟩
 ·
  obtain ⟨hlt, hE⟩ := idx_hit hix
  have hlt' : i < s.size := by rw [Lib.size_eq]; exact hlt
  have HE := Hi hE
  have HX := Hi hix
  obtain ⟨p1, p2⟩ := cut_parts s i hlt'
  have HP1 := Hi p1
  have HP2 := Hi p2
  clear hix p1 p2 hE hlt
  have c1 : (0 : Int) ≤ ↑i := by omega
  have c2 : (↑i : Int) ≤ ↑s.size := by omega
  have c3 : (0 : Int) ≤ ↑i + 1 := by omega
  have c4 : (↑i + 1 : Int) ≤ ↑s.size := by omega
  go_enter Tryz.func147, Tryz.ntmps147
  go_wp2_with (go_at_call 170; refine (sIndex_dot _ _).mono ?_; rintro e w' ⟨rfl, rfl⟩; rw [HX.out])
  go_quiet (fail)
  go_wp2
  go_ret3
  exact ⟨by simp only [cutV, HE.out, HP1.out, HP2.out]; rfl, ⟨rfl, rfl, rfl, Nat.le_refl _, fun _ _ => rfl⟩⟩
theorem cut_dot (s : ByteArray) (w : World) (hs : s.size ≤ maxLen) : Calls Tryz.prog 113 #[.string s, .string ⟨#[46]⟩] w fun e w' => e = .returned (cutV s.data.toList) ∧ Below w.heap.size w w' := by
 have hc := fun w => sCut_dot s w hs
 unfold cutV at *
 generalize (cutD s.data.toList).1 = x at *
 generalize (cutD s.data.toList).2.1 = y at *
 generalize (cutD s.data.toList).2.2 = z at *
 have HC := Hi hc
 clear hc
 go_enter Tryz.func113, Tryz.ntmps113
 go_wp2_with (go_at_call 147; refine (HC.out _).mono ?_; rintro e w' ⟨rfl, hb⟩)
 go_ret3
 exact ⟨rfl, hb⟩
section
attribute [local go_sem] Oper.semAt_some

def strN : Value → Nat
 | .string s => s.size
 | _ => 0
theorem mk_toList (l : List UInt8) : (⟨l.toArray⟩ : ByteArray).data.toList = l := by simp
theorem mk_size (l : List UInt8) : (⟨l.toArray⟩ : ByteArray).size = l.length := by simp [ByteArray.size]
abbrev encL (x : List UInt8) : Array Value := #[.string ⟨x.toArray⟩]
theorem labels_any (s : ByteArray) (w : World) : Calls Tryz.prog 79 #[.string s] w fun e w' => e = .returned (.func (.func 112) #[] #[.pointer (some ⟨w.heap.size, 0, none⟩)]) ∧ w' = w.alloc (.cells #[.string s] 9) := by
 go_enter Tryz.func79, Tryz.ntmps79
 go_wp2
 go_ret
 exact ⟨rfl, rfl⟩
theorem yield_ways {A B : Prop} {e : Ending} (h : (e = .returned (.bool true) ∧ A) ∨ (e = .returned (.bool false) ∧ B)) : ∃ bb : Bool, e = .returned (.bool bb) ∧ ((bb = true → A) ∧ (bb = false → B)) := by
 rcases h with ⟨h1, h2⟩ | ⟨h1, h2⟩
 ·
  exact ⟨true, h1, fun _ => h2, fun h => by cases h⟩
 ·
  exact ⟨false, h1, (fun h => by cases h), fun _ => h2⟩
theorem grownBy_below {w w' : World} (h : Below w.heap.size w w') : w.grownBy w' none := ⟨h.os, h.tape, h.output, h.size, fun k hk _ => h.block k hk⟩
theorem labels_in (n : Nat) (hn : 1 ≤ n) (l N b : Nat) (s : ByteArray) (hs : s.size ≤ maxLen) (hN : (pcs s.data.toList).length ≤ N) (J Jx : List (List UInt8) → World → Prop) (Kp : World → World → Prop) (W : World) (hJ : AbidesFrom W.heap.size J)
    (hY : ∀ pre x W1, J pre W1 → pre.length < N → YieldAt Fence.wide (n - 1) Tryz.prog l (encL x) W1 fun e W' => (e = .returned (.bool true) ∧ J (pre ++ [x]) W' ∧ Kp W1 W') ∨ (e = .returned (.bool false) ∧ Jx (pre ++ [x]) W'))
    (hc : W.cell? ⟨b, 0, none⟩ = some (.string s)) (h0 : J [] W) :
    CallsIn Fence.wide n Tryz.prog 112 #[.func (.yield l) #[] #[], .pointer (some ⟨b, 0, none⟩)] W fun e W' => (∃ v, e = .returned v) ∧ ((∃ ys, ys = pcs s.data.toList ∧ J ys W') ∨ (∃ pre, pre <+: pcs s.data.toList ∧ Jx pre W')) := by
  have HY := Hi hY
  have HJ := Hi hJ
  have HN := Hi hN
  have HS := Hi hs
  clear hY hJ hN hs
  refine callsIn_of_wp Tryz.func112 rfl trivial ?_ rfl
  simp only [Tryz.ntmps112, List.size_toArray, List.length_cons, List.length_nil, Nat.reduceAdd, Nat.reduceSub, Array.replicate_succ, Array.replicate_zero, List.push_toArray, List.append_toArray, List.nil_append, List.cons_append]
  gi_wp2
  clear hc
  gi_loopw [3] (fun rv wr => ∃ pre r, rv = .string r ∧ pcs s.data.toList = pre ++ pcs r.data.toList ∧ J pre wr ∧ r.size ≤ s.size) (fun rv _ => strN rv)
  case atStart => exact ⟨[], s, rfl, rfl, h0, Nat.le_refl _⟩
  case round =>
    obtain ⟨pre, r, rfl, hpc, hJs, hrs⟩ := hrel
    have HP := Hi hpc
    have HJs := Hi hJs
    have HRS := Hi hrs
    have hlen := cutD_len r.data.toList
    have hmore := @pcs_more r.data.toList
    have hlast := @pcs_last r.data.toList
    have C := Hi (fun w => cut_dot r w (Nat.le_trans hrs HS.out))
    unfold cutV at C
    rw [← Lib.size_eq] at hlen
    generalize (cutD r.data.toList).1 = x at *
    generalize (cutD r.data.toList).2.1 = y at *
    generalize (cutD r.data.toList).2.2 = z at *
    have HL := Hi hlen
    have HM := Hi hmore
    have HA := Hi hlast
    clear hpc hJs hrs hlen hmore hlast
    have hlt : pre.length < N := by
      have h1 := HN.out
      rw [HP.out, List.length_append] at h1
      have : 0 < (pcs r.data.toList).length := List.length_pos_iff.2 (pcs_ne _)
      omega
    have Y := Hi (fun (W' : World) (hb : Below wr.heap.size wr W') => HY.out pre x W' (HJ.out _ _ _ none HJs.out (grownBy_below hb) (fun r e => by cases e)) hlt)
    gi_wp2_with (first
      | (refine ⟨trivial, ?_⟩; gi_at_call 113; refine (callsIn_wide.2 (C.out _)).mono ?_; rintro e w1 ⟨rfl, hb1⟩; obtain ⟨fn, tmps, assign, body, hy, hR⟩ := Y.out w1 hb1)
      | (refine hR.mono ?_; intro e W3 h3; obtain ⟨bb, rfl, hbb⟩ := yield_ways h3; have HBB := Hi hbb; clear h3 hbb hy hR))
    all_goals first
      | (have hb : bb = true := by assumption
         have hz : (!z) = false := by assumption
         have hz' : z = true := by simpa using hz
         go_roundw
         case rel => exact ⟨pre ++ [x], ⟨y.toArray⟩, rfl, by rw [HP.out, HM.out hz', mk_toList]; simp, (HBB.out.1 hb).1, by rw [mk_size]; have := HL.out.1; have := HRS.out; omega⟩
         case measure => show (⟨y.toArray⟩ : ByteArray).size < r.size; rw [mk_size]; exact HL.out.2.1 hz')
      | (have hb : bb = true := by assumption
         have hz : (!z) = true := by assumption
         have hz' : z = false := by simpa using hz
         refine bodyPost_ret (results_none rfl _ _ _) rfl ?_
         exact ⟨⟨_, rfl⟩, .inl ⟨_, rfl, by rw [HP.out, HA.out hz']; exact (HBB.out.1 hb).1⟩⟩)
      | (have hb : ¬ bb = true := by assumption
         have hb' : bb = false := by simpa using hb
         refine bodyPost_ret (results_none rfl _ _ _) rfl ?_
         exact ⟨⟨_, rfl⟩, .inr ⟨_, (by
           cases z with
           | true => rw [HP.out, HM.out rfl]; exact ⟨pcs y, by simp⟩
           | false => rw [HP.out, HA.out rfl]; exact List.prefix_refl _), HBB.out.2 hb'⟩⟩)
theorem labels_stops (n : Nat) (hn : 1 ≤ n) (N b : Nat) (s : ByteArray) (hs : s.size ≤ maxLen) (hN : (pcs s.data.toList).length ≤ N) (Kp : World → World → Prop) (w : World) (hc : w.cell? ⟨b, 0, none⟩ = some (.string s)) :
  SeqStopsK Fence.wide n Tryz.prog 112 #[.pointer (some ⟨b, 0, none⟩)] encL Kp (fun xs => xs = pcs s.data.toList) (fun pre => pre <+: pcs s.data.toList) N w := by
 intro l J Jx W hW hJ hJx hY h0
 exact labels_in n hn l N b s hs hN J Jx Kp W hJ hY (keep hW hc) h0
end
end Go.Proofs.YtbhglemolpfnkaaGreatDoor
