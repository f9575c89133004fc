/- ResolverFollowsZone without the program: a resolver whose cache says what one zone says. -/
import Derived.Test.YtbolfkojebbejaaGreatDoorLr3
import Derived.Test.YtbolfkojebbejaaGreatDoorRcv
import Derived.Test.YtbolfkojebbejaaGreatDoorLr1
import Derived.Test.YtbolfkojebbejaaGreatDoorRrl
import Derived.Test.YtbolfkojebbejaaGreatDoorBb
set_option linter.unusedVariables false
set_option maxRecDepth 100000
set_option maxHeartbeats 32000000
namespace Go.Proofs.YtbolfkojebbejaaGreatDoor
open Go.RowKit Go.Sort

theorem ss_ext : ∀ {a b : List Int}, a.Pairwise (· < ·) → b.Pairwise (· < ·) → (∀ x, x ∈ a ↔ x ∈ b) → a = b
 | [], [], _, _, _ => rfl
 | [], y :: b, _, _, h => by have := (h y).2 List.mem_cons_self; cases this
 | x :: a, [], _, _, h => by have := (h x).1 List.mem_cons_self; cases this
 | x :: a, y :: b, h1, h2, h => by
  obtain ⟨p1, q1⟩ := List.pairwise_cons.1 h1
  obtain ⟨p2, q2⟩ := List.pairwise_cons.1 h2
  have hx : x = y := by
   rcases List.mem_cons.1 ((h x).1 List.mem_cons_self) with e | e
   ·
    exact e
   ·
    rcases List.mem_cons.1 ((h y).2 List.mem_cons_self) with e2 | e2
    ·
     exact e2.symm
    ·
     have := p1 y e2; have := p2 x e; omega
  subst hx
  refine congrArg (x :: ·) (ss_ext q1 q2 fun z => ⟨fun hz => ?_, fun hz => ?_⟩)
  ·
   rcases List.mem_cons.1 ((h z).1 (List.mem_cons_of_mem _ hz)) with e | e
   ·
    subst e; exact absurd (p1 z hz) (by omega)
   ·
    exact e
  ·
   rcases List.mem_cons.1 ((h z).2 (List.mem_cons_of_mem _ hz)) with e | e
   ·
    subst e; exact absurd (p2 z hz) (by omega)
   ·
    exact e
theorem sortZ_perm (l : List Int) : (sortZ l).Perm l := List.mergeSort_perm l _
theorem sortZ_le (l : List Int) : (sortZ l).Pairwise (· ≤ ·) := by
 have h := List.pairwise_mergeSort (le := fun x y : Int => decide (x ≤ y)) (fun a b c h1 h2 => by simp at *; omega) (fun a b => by simp; omega) l
 exact h.imp fun h => by simpa using h
theorem comp_list (l : List Int) : compZ l = ((List.range l.length).filter (Lib.keeps l.toArray)).map (l.toArray[·]!) := rfl
theorem keeps_iff {d : Array Int} {j : Nat} : Lib.keeps d j = true ↔ j = 0 ∨ d[j]! ≠ d[j - 1]! := by unfold Lib.keeps; exact decide_eq_true_iff
theorem le_at {l : List Int} (h : l.Pairwise (· ≤ ·)) {i j : Nat} (hij : i ≤ j) (hj : j < l.length) : l.toArray[i]! ≤ l.toArray[j]! := by
 rw [getElem!_pos l.toArray i (by simp; omega), getElem!_pos l.toArray j (by simpa using hj)]
 rcases Nat.lt_or_ge i j with h1 | h1
 ·
  exact List.pairwise_iff_getElem.1 h i j (by omega) hj h1
 ·
  obtain rfl : i = j := by omega
  exact Int.le_refl _
theorem comp_ss {l : List Int} (h : l.Pairwise (· ≤ ·)) : (compZ l).Pairwise (· < ·) := by
 rw [comp_list, List.pairwise_map]
 refine List.Pairwise.imp_of_mem ?_ (List.Pairwise.filter _ List.pairwise_lt_range)
 intro i j hi hj hij
 have hj1 := List.mem_filter.1 hj
 have hjl := List.mem_range.1 hj1.1
 rcases keeps_iff.1 hj1.2 with h0 | h0
 ·
  omega
 ·
  have h1 := le_at h (i := i) (j := j - 1) (by omega) (by omega)
  have h2 := le_at h (i := j - 1) (j := j) (by omega) hjl
  omega
theorem comp_mem {l : List Int} (x : Int) : x ∈ compZ l ↔ x ∈ l := by
 rw [comp_list, List.mem_map]
 constructor
 ·
  rintro ⟨j, hj, rfl⟩
  have hjl := List.mem_range.1 (List.mem_filter.1 hj).1
  rw [getElem!_pos l.toArray j (by simpa using hjl)]
  simp
 ·
  intro hx
  obtain ⟨j, hj, hjx⟩ := List.getElem_of_mem hx
  have key : ∀ j, (hj : j < l.length) → l[j] = x → ∃ i, i ∈ (List.range l.length).filter (Lib.keeps l.toArray) ∧ l.toArray[i]! = x := by
   intro j
   induction j with
   | zero => exact fun hj e => ⟨0, List.mem_filter.2 ⟨List.mem_range.2 hj, keeps_iff.2 (.inl rfl)⟩, by rw [getElem!_pos l.toArray 0 (by simpa using hj)]; simpa using e⟩
   | succ j ih =>
    intro hj e
    by_cases h : l[j]'(by omega) = x
    ·
     exact ih (by omega) h
    ·
     refine ⟨j + 1, List.mem_filter.2 ⟨List.mem_range.2 hj, keeps_iff.2 (.inr ?_)⟩, by rw [getElem!_pos l.toArray (j + 1) (by simpa using hj)]; simpa using e⟩
     rw [getElem!_pos l.toArray (j + 1) (by simpa using hj), Nat.add_sub_cancel, getElem!_pos l.toArray j (by simp; omega)]
     simp only [List.getElem_toArray]
     rw [e]; exact fun h' => h h'.symm
  exact key j hj hjx
def ssZ (l : List Int) : List Int := compZ (sortZ l)
theorem ssZ_ss (l : List Int) : (ssZ l).Pairwise (· < ·) := comp_ss (sortZ_le l)
theorem ssZ_mem (l : List Int) (x : Int) : x ∈ ssZ l ↔ x ∈ l := (comp_mem x).trans (sortZ_perm l).mem_iff
def k3 (r : Rc) : Int × Int × ByteArray := (r.kd, r.ad, r.to)
def toOk (rs : List Rc) : Prop := ∀ r ∈ rs, r.kd ≠ 1 → r.to.toList ≠ []
def P8 (s : ByteArray) : Prop := ∃ k, k < 8 ∧ s = nm8 k
structure Zone (tt : Int) (l : List Rc) : Prop where
 len : l.length ≤ 8
 ok : ∀ r ∈ l, RcV r ∧ r.tt = tt ∧ P8 r.nm ∧ (r.kd ≠ 1 → P8 r.to)
theorem v_ne {s : ByteArray} (h : P8 s) : s.toList ≠ [] := by
 obtain ⟨k, hk, rfl⟩ := h
 intro h
 have e := eq_nil_bytes h
 have h8 : k = 0 ∨ k = 1 ∨ k = 2 ∨ k = 3 ∨ k = 4 ∨ k = 5 ∨ k = 6 ∨ k = 7 := by omega
 rcases h8 with rfl | rfl | rfl | rfl | rfl | rfl | rfl | rfl <;> exact absurd (congrArg ByteArray.size e) (by decide)
section
variable {tt : Int} {l : List Rc} {es : List En} {now : Int}
theorem Zone.to (h : Zone tt l) : toOk l := fun r hr h1 => v_ne ((h.ok r hr).2.2.2 h1)
theorem Zone.kd (h : Zone tt l) {r : Rc} (hr : r ∈ l) : r.kd ≠ 0 := by
 rcases (h.ok r hr).1.al with ⟨h1, _⟩ | ⟨h1, _⟩ <;> omega
structure ZC (l : List Rc) (es : List En) : Prop where
 live : ∀ e ∈ es, 5 < e.ex
 key : ∀ e ∈ es, e.kd ≠ 0 → ∃ r ∈ l, ownK r = keyE e
 neg : ∀ e ∈ es, e.kd = 0 → ofN e.nm l = []
 all : ∀ e ∈ es, ∀ r ∈ l, r.nm = e.nm → ∃ x ∈ es, keyE x = ownK r
 nm : ∀ e ∈ es, P8 e.nm
theorem ZC.nil : ZC l [] := ⟨fun e h => (by cases h), fun e h => (by cases h), fun e h => (by cases h), fun e h => (by cases h), fun e h => (by cases h)⟩
theorem rc_rec {r : Rc} (h : RcV r) (h0 : 0 ≤ now) (h5 : now ≤ 5) : recB now r = true := by
 rw [recB_eq, Bool.and_eq_true]
 refine ⟨?_, chkF_ok h0 (by omega) h.nm h.t0 h.t9⟩
 unfold recA
 rcases h.al with ⟨a, b, c⟩ | ⟨a, b, c⟩
 ·
  simp [a, b, c]
 ·
  simp [a, b, c]
end

section
variable {tt : Int} {l : List Rc} {es : List En} {now sd tk qn nu se s0 : Int} {b : Nat} {want : RO} {ch : List ByteArray} {rs : List Rc}
def ansM (l : List Rc) (all : Bool) (id : Int) (nm : ByteArray) : Dm := if ofN nm l = [] then ⟨id, true, 1, nm, 1, []⟩ else ⟨id, true, 0, nm, 1, l.filter fun r => (r.nm.toList == nm.toList) || all⟩
theorem relN_has {rs : List Rc} {x : ByteArray} : ∀ (n : Nat) (ns : List ByteArray), hasS x ns = true → hasS x (relN rs n ns) = true
 | 0, ns, h => h
 | n + 1, ns, h => by
  unfold relN
  split
  ·
   exact h
  ·
   exact relN_has n _ (by rw [hasS_snoc, h]; rfl)
end

end Go.Proofs.YtbolfkojebbejaaGreatDoor

namespace Go.Proofs.YtbolfkojebbejaaGreatDoor
open Go.RowKit Go.Sort
attribute [local go_sem] Oper.semAt_some

structure Rq where
 nm : Int
 al : Bool
 to : Int
 tt : Int
abbrev rqA (x : Rq) : Array Value := #[.int .i64 x.nm, .bool x.al, .int .i64 x.to, .int .i64 x.tt]
structure RqOk (x : Rq) : Prop where
 nm : i64B x.nm
 to : i64B x.to
 tt : i64B x.tt
def RdRq (w : World) (v : Value) (len : Nat) (g : Nat → Rq) : Prop :=
 ∃ a cap, v = .slice a len cap ∧ len ≤ cap ∧ len ≤ 9223372036854775807 ∧ (∀ i, i < len → RqOk (g i)) ∧ (len ≠ 0 → ∃ b o, a = some ⟨b, o, none⟩ ∧ ∀ i, i < len → ∀ j, j < 4 → w.cell? ⟨b, o + i * 4 + j, none⟩ = (rqA (g i))[j]?)
theorem RdRq.stay {w w' : World} {v : Value} {len : Nat} {g : Nat → Rq} (h : RdRq w v len g) (hb : Below w.heap.size w w') : RdRq w' v len g := by
 obtain ⟨a, cap, h1, h2, h3, h4, h5⟩ := h
 refine ⟨a, cap, h1, h2, h3, h4, fun hn => ?_⟩
 obtain ⟨b, o, ha, hc⟩ := h5 hn
 refine ⟨b, o, ha, fun i hi j hj => ?_⟩
 have h6 := hc i hi j hj
 have h7 : ∃ u, (rqA (g i))[j]? = some u := ⟨_, Array.getElem?_eq_getElem (show j < 4 from hj)⟩
 obtain ⟨u, hu⟩ := h7
 rw [hu] at h6 ⊢
 exact keep hb h6
theorem infoRc21 : (Tryz.prog.info? 49).map (fun i => (i.zero, i.size, i.bytes)) = some (some (.agg #[.string ⟨#[]⟩, .int .i64 0, .int .i64 0, .int .i64 0, .string ⟨#[]⟩]), 5, 56) := by kernel_rfl
theorem run_bsR21 (a : ByteArray) (b c d : Int) (s : ByteArray) (w : World) : (Instr.buildSlice 50 1 #[(0, .agg #[.string a, .int .i64 b, .int .i64 c, .int .i64 d, .string s])]).run Tryz.prog w = .ok (.slice (some ⟨w.heap.size, 0, none⟩) 1 1) (w.alloc (.cells #[.string a, .int .i64 b, .int .i64 c, .int .i64 d, .string s] 49)) := by kernel_rfl
section
attribute [local go_sem ↓] run_bsR21
end

end Go.Proofs.YtbolfkojebbejaaGreatDoor

namespace Go.Proofs.YtbolfkojebbejaaGreatDoor
open Go.RowKit Go.Sort
attribute [local go_sem] Oper.semAt_some

end Go.Proofs.YtbolfkojebbejaaGreatDoor

namespace Go.Proofs.YtbolfkojebbejaaGreatDoor
open Go.RowKit Go.Sort
attribute [local go_sem] Oper.semAt_some

def zaF (nm : ByteArray) (all : Bool) (l : List Rc) : List Rc := l.filter fun r => (r.nm.toList == nm.toList) || all
def zaB (nm : ByteArray) (l : List Rc) : Bool := l.any fun r => r.nm.toList == nm.toList
theorem zaB_of (nm : ByteArray) (l : List Rc) : zaB nm l = !(ofN nm l).isEmpty := by
 unfold zaB ofN
 induction l with
 | nil => rfl
 | cons r l ih =>
  rw [List.any_cons, List.filter_cons, ih]
  cases h : (r.nm.toList == nm.toList) <;> simp
theorem ansM_no {l : List Rc} {all : Bool} {id : Int} {nm : ByteArray} (h : zaB nm l = false) : ansM l all id nm = ⟨id, true, 1, nm, 1, []⟩ := by
 unfold ansM
 rw [if_pos]
 rw [zaB_of] at h
 simpa using h
theorem ansM_yes {l : List Rc} {all : Bool} {id : Int} {nm : ByteArray} (h : zaB nm l = true) : ansM l all id nm = ⟨id, true, 0, nm, 1, zaF nm all l⟩ := by
 unfold ansM
 rw [if_neg]
 ·
  rfl
 ·
  rw [zaB_of] at h
  simpa using h
theorem ansM_ok {l : List Rc} {all : Bool} {id : Int} {nm : ByteArray} (h8 : l.length ≤ 8) (hv : ∀ r ∈ l, RcV r) (hn : vname nm = true) (h0 : 0 ≤ id) (h1 : id ≤ 65535) : DmV (ansM l all id nm) := by
 cases h : zaB nm l with
 | false =>
  rw [ansM_no h]
  exact ⟨⟨h0, h1⟩, ⟨by show (0 : Int) ≤ 1; decide, by show (1 : Int) ≤ 2; decide⟩, hn, .inl rfl, by show 0 ≤ 8; decide, fun r hr => (by cases hr), fun e => by cases e⟩
 | true =>
  rw [ansM_yes h]
  exact ⟨⟨h0, h1⟩, ⟨by show (0 : Int) ≤ 0; decide, by show (0 : Int) ≤ 2; decide⟩, hn, .inl rfl, Nat.le_trans (List.length_filter_le _ _) h8, fun r hr => hv r (List.mem_filter.1 hr).1, fun e => by cases e⟩
theorem zaF_snoc {nm : ByteArray} {all : Bool} {l : List Rc} {k : Nat} (hk : k < l.length) : zaF nm all (l.take (k + 1)) = zaF nm all (l.take k) ++ if ((l[k].nm.toList == nm.toList) || all) = true then [l[k]] else [] := by
 unfold zaF
 rw [List.take_succ_eq_append_getElem hk, List.filter_append]
 congr 1
 simp only [List.filter_cons, List.filter_nil]
theorem zaB_snoc {nm : ByteArray} {l : List Rc} {k : Nat} (hk : k < l.length) : zaB nm (l.take (k + 1)) = (zaB nm (l.take k) || (l[k].nm.toList == nm.toList)) := by
 unfold zaB
 rw [List.take_succ_eq_append_getElem hk, List.any_append]
 simp
theorem run_bsRc9 (a : ByteArray) (b c d : Int) (s : ByteArray) (w : World) : (Instr.buildSlice 50 1 #[(0, .agg #[.string a, .int .i64 b, .int .i64 c, .int .i64 d, .string s])]).run Tryz.prog w = .ok (.slice (some ⟨w.heap.size, 0, none⟩) 1 1) (w.alloc (.cells #[.string a, .int .i64 b, .int .i64 c, .int .i64 d, .string s] 49)) := by kernel_rfl
theorem zoneAns_r {v : Value} {n : Nat} {l : List Rc} {sv pt id : Int} {nm qs out : ByteArray} {all : Bool} (w : World) (hr : w.ownsRow 0 49 5 v n (l.flatMap cRc)) (hn : l.length = n) (h8 : n ≤ 8) (hv : ∀ r ∈ l, RcV r) (hnm : vname nm = true) (h0 : 0 ≤ id) (h1 : id ≤ 65535)
  (hq : qs = ⟨(encM (qryD id nm)).toArray⟩) (ho : ⟨(encM (ansM l all id nm)).toArray⟩ = out) :
  Calls Tryz.prog 25 #[v, .agg #[.int .i64 sv, .int .i64 pt, .string qs], .bool all] w fun e w' => e = .returned (.agg #[.int .i64 53, .int .i64 pt, .string out]) ∧ Below w.heap.size w w' := by
 obtain ⟨p, cap, rfl⟩ := row_shape hr
 have HR := Hi hr
 have HN := Hi hn
 have HQ := Hi (fun w => decode19_q w h0 h1 hnm hq)
 have HD := Hi (ansM_ok (all := all) (by rw [hn]; exact h8) hv hnm h0 h1)
 have HOUT := Hi ho
 clear hr hn hv hnm h0 h1 hq ho
 have HO := Hi (Own.nil w none0)
 obtain ⟨x1, hx1, bq, hbq, hO⟩ := HO.out.allocE (.cells #[.int .i64 sv, .int .i64 pt, .string qs] 37)
 replace HO := Hi (show Own w none0 x1 [blkR bq (.cells #[.int .i64 sv, .int .i64 pt, .string qs] 37)] from hO)
 clear hO
 obtain ⟨x2, hx2, br, hbr, hO⟩ := HO.out.allocE (.cells #[.int .i64 0, .int .i64 0, .string ⟨#[]⟩] 56)
 replace HO := Hi (show Own _ _ _ [_, blkR br (.cells #[.int .i64 0, .int .i64 0, .string ⟨#[]⟩] 56)] from hO)
 clear hO
 obtain ⟨z0_0, z0_1, z0_2⟩ := HO.out.c3 0 rfl
 go_enter Tryz.func25, Tryz.ntmps25
 go_wp2_with fail
 refine (o_still HO.out (HQ.out _)).mono ?_
 rintro e x3 ⟨rfl, hO, -⟩
 replace HO := Hi hO
 clear hO
 clear hx1 hbq hx2 hbr z0_0 z0_1 z0_2
 obtain ⟨x4, hx4, bd, hbd, hO⟩ := HO.out.allocE (.cells #[.int .i64 0, .bool false, .int .i64 0, .string ⟨#[]⟩, .int .i64 0, .slice none 0 0] 86)
 replace HO := Hi (show Own _ _ _ [_, _, blkR bd (.cells #[.int .i64 0, .bool false, .int .i64 0, .string ⟨#[]⟩, .int .i64 0, .slice none 0 0] 86)] from hO)
 clear hO
 obtain ⟨x11, x17, x22, x26, x29, x31, hx11, hx17, hx22, hx26, hx29, hx31, k2_0_5, lk2_0_5, k2_1_12, lk2_1_12, k2_2_18, lk2_2_18, k2_3_23, lk2_3_23, k2_4_27, lk2_4_27, k2_5_30, lk2_5_30, hO⟩ := HO.out.steps6 2 rfl (.int .i64 id) (.bool false) (.int .i64 0) (.string nm) (.int .i64 1) (.slice none 0 0)
 replace HO := Hi (show Own _ _ _ [_, _, blkR bd (.cells #[.int .i64 id, .bool false, .int .i64 0, .string nm, .int .i64 1, .slice none 0 0] 86)] from hO)
 clear hO
 have y2_1 := HO.out.frz 2 rfl 1
 have z2_1 : x31.cell? _ = some (.bool false) := HO.out.cell 2 rfl 1 rfl
 obtain ⟨x32, hx32, hO⟩ := HO.out.setE 2 rfl 1 (.bool true)
 replace HO := Hi (show Own _ _ _ [_, _, blkR bd (.cells #[.int .i64 id, .bool true, .int .i64 0, .string nm, .int .i64 1, .slice none 0 0] 86)] from hO)
 clear hO
 go_wp2
 clear hx4 hbd k2_0_5 lk2_0_5 hx11 k2_1_12 lk2_1_12 hx17 k2_2_18 lk2_2_18 hx22 k2_3_23 lk2_3_23 hx26 k2_4_27 lk2_4_27 hx29 k2_5_30 lk2_5_30 hx31 y2_1 z2_1 hx32
 have HO := Hi (show Own w none0 x32 ([blkR bq (.cells #[.int .i64 sv, .int .i64 pt, .string qs] 37), blkR br (.cells #[.int .i64 0, .int .i64 0, .string ⟨#[]⟩] 56), blkR bd (.cells #[.int .i64 id, .bool true, .int .i64 0, .string nm, .int .i64 1, .slice none 0 0] 86)] ++ [rowR (.slice none 0 0) 49 5 0 ((zaF nm all (l.take 0)).flatMap cRc)]) from HO.out.rowNew 49 5)
 go_loopw [9, 10] (fun bv iv wr => ∃ (k m : Nat) (a : Option Addr) (c : Nat), k ≤ n ∧ iv = .int .i64 k ∧ bv = .bool (zaB nm (l.take k)) ∧ (zaF nm all (l.take k)).length = m ∧ Own w none0 wr [blkR bq (.cells #[.int .i64 sv, .int .i64 pt, .string qs] 37), blkR br (.cells #[.int .i64 0, .int .i64 0, .string ⟨#[]⟩] 56), blkR bd (.cells #[.int .i64 id, .bool true, .int .i64 0, .string nm, .int .i64 1, .slice a m c] 86), rowR (.slice a m c) 49 5 m ((zaF nm all (l.take k)).flatMap cRc)]) (fun _ iv _ => n - (intOf iv).toNat)
 case atStart => exact ⟨0, 0, none, 0, Nat.zero_le _, rfl, rfl, rfl, HO.out⟩
 case round =>
  obtain ⟨k, m, a1, c1, hk, rfl, rfl, hm, hO⟩ := hrel
  clear HO
  have HO := Hi hO
  have HM := Hi hm
  clear hO hm
  have hm8 : m ≤ k := by rw [← HM.out]; exact Nat.le_trans (List.length_filter_le _ _) (List.length_take_le _ _)
  by_cases hlt : k < n
  ·
   have hkl : k < l.length := by rw [HN.out]; exact hlt
   have hd4 : decide ((k : Int) < (n : Int)) = true := decide_eq_true (by omega)
   have hrw := HR.out
   obtain ⟨g, rfl⟩ := row_some hrw (by omega)
   have yc : ∀ q u, q < 5 → (cRc l[k])[q]? = some u → w.cell? ⟨g, k * 5 + q, none⟩ = some u := fun q u hq hu => (row_cells hrw).1 _ _ (by rw [flat_getR cRc 5 (fun _ => rfl) l k hkl q hq]; exact hu)
   have HZF := Hi (zaF_snoc (nm := nm) (all := all) hkl)
   have HZB := Hi (zaB_snoc (nm := nm) hkl)
   generalize l[k] = r at *
   obtain ⟨nm2, kd, tt, ad, to⟩ := r
   have Y0 := Hi (show w.cell? ⟨g, k * 5, none⟩ = some (.string nm2) from yc 0 _ (by decide) rfl)
   have Y1 := Hi (show w.cell? ⟨g, k * 5 + 1, none⟩ = some (.int .i64 kd) from yc 1 _ (by decide) rfl)
   have Y2 := Hi (show w.cell? ⟨g, k * 5 + 2, none⟩ = some (.int .i64 tt) from yc 2 _ (by decide) rfl)
   have Y3 := Hi (show w.cell? ⟨g, k * 5 + 3, none⟩ = some (.int .i64 ad) from yc 3 _ (by decide) rfl)
   have Y4 := Hi (show w.cell? ⟨g, k * 5 + 4, none⟩ = some (.string to) from yc 4 _ (by decide) rfl)
   clear yc hrw hkl
   have g0 := cell_regrown (keep HO.out.below Y0.out)
   have hb1 : (n : Int) ≤ 8 := by omega
   obtain ⟨isb, his⟩ : ∃ b, zaB nm (l.take k) = b := ⟨_, rfl⟩
   rw [his] at HZB ⊢
   clear his
   obtain ⟨eqb, heq⟩ : ∃ b, (nm2.toList == nm.toList) = b := ⟨_, rfl⟩
   rw [heq] at HZB HZF
   have g2_3 := cell_regrown (show wr.cell? _ = some (.string nm) from HO.out.cell 2 rfl 3 rfl)
   cases isb <;> cases eqb <;> cases all
   ·
    go_wp2
    refine wp_region_B (by kernel_rfl) (by kernel_rfl) ?_
    repeat (go_big_quiet_step (fail))
    refine wpQuiet_nil ?_
    intro x61 hbw
    have hO := HO.out.stay hbw
    replace HO := Hi (show Own _ _ _ [_, _, blkR bd (.cells #[.int .i64 id, .bool true, .int .i64 0, .string nm, .int .i64 1, .slice a1 m c1] 86), rowR (.slice a1 m c1) 49 5 m ((zaF nm false (l.take k)).flatMap cRc)] from hO)
    clear hO hbw g0 g2_3
    have g0 := cell_regrown (keep HO.out.below Y0.out)
    have h2_3 := cell_regrown (show x61.cell? _ = some (.string nm) from HO.out.cell 2 rfl 3 rfl)
    go_wp2
    refine wp_region_B (by kernel_rfl) (by kernel_rfl) ?_
    repeat (go_big_quiet_step (fail))
    refine wpQuiet_nil ?_
    intro x62 hbw
    have hO := HO.out.stay hbw
    replace HO := Hi hO
    clear hO hbw g0 h2_3
    have HB2 := Hi (show zaB nm (l.take (k + 1)) = false by rw [HZB.out]; rfl)
    have HF2 := Hi (show zaF nm false (l.take (k + 1)) = zaF nm false (l.take k) by rw [HZF.out]; simp)
    go_wp2
    go_roundw
    case rel => exact ⟨k + 1, m, a1, c1, by omega, by go_num, by rw [HB2.out], by rw [HF2.out, HM.out], by rw [HF2.out]; exact HO.out⟩
    case measure => simp [intOf]; omega
   ·
    go_wp2
    refine wp_region_B (by kernel_rfl) (by kernel_rfl) ?_
    repeat (go_big_quiet_step (fail))
    refine wpQuiet_nil ?_
    intro x61 hbw
    have hO := HO.out.stay hbw
    replace HO := Hi (show Own _ _ _ [_, _, _, rowR (.slice a1 m c1) 49 5 m ((zaF nm true (l.take k)).flatMap cRc)] from hO)
    clear hO hbw g0 g2_3
    have g0 := cell_regrown (keep HO.out.below Y0.out)
    have h2_3 := cell_regrown (show x61.cell? _ = some (.string nm) from HO.out.cell 2 rfl 3 rfl)
    go_wp2
    refine wp_region_B (by kernel_rfl) (by kernel_rfl) ?_
    repeat (go_big_quiet_step (fail))
    refine wpQuiet_nil ?_
    intro x62 hbw
    have hO := HO.out.stay hbw
    replace HO := Hi hO
    clear hO hbw g0 h2_3
    have HB2 := Hi (show zaB nm (l.take (k + 1)) = false by rw [HZB.out]; rfl)
    have HF2 := Hi (show zaF nm true (l.take (k + 1)) = zaF nm true (l.take k) ++ [⟨nm2, kd, tt, ad, to⟩] by rw [HZF.out]; rfl)
    go_wp2
    generalize hΓ : ghS w none0 (apS [blkR bq (.cells #[.int .i64 sv, .int .i64 pt, .string qs] 37), blkR br (.cells #[.int .i64 0, .int .i64 0, .string ⟨#[]⟩] 56), blkR bd (.cells #[.int .i64 id, .bool true, .int .i64 0, .string nm, .int .i64 1, .slice a1 m c1] 86), rowR (.slice a1 m c1) 49 5 m ((zaF nm true (l.take k)).flatMap cRc)] 3 (cRc ⟨nm2, kd, tt, ad, to⟩) 49 (fun v' => rowR v' 49 5 (m + 1) ((zaF nm true (l.take k)).flatMap cRc ++ cRc ⟨nm2, kd, tt, ad, to⟩))) = Γ
    have HST := Hi (show Γ.inv [] x62 by rw [← hΓ]; exact apS_start HO.out)
    have q2_5 : ∀ q : Γ.Wd, q.w.cell? ⟨bd, 5, none⟩ = some (.slice a1 m c1) := by rw [← hΓ]; exact apS_cell (c := #[.int .i64 id, .bool true, .int .i64 0, .string nm, .int .i64 1, .slice a1 m c1]) (t := 86) 2 rfl (by decide) 5 rfl
    have HBL := Hi (show ∀ q : Γ.Wd, Below w.heap.size w q.w by rw [← hΓ]; rintro ⟨vs, w9, L9, -, h9⟩; exact h9.below)
    have q9_0 : ∀ q : Γ.Wd, q.w.cell? ⟨g, k * 5, none⟩ = some (.string nm2) := fun q => keep (HBL.out q) Y0.out
    have q9_1 : ∀ q : Γ.Wd, q.w.cell? ⟨g, k * 5 + 1, none⟩ = some (.int .i64 kd) := fun q => keep (HBL.out q) Y1.out
    have q9_2 : ∀ q : Γ.Wd, q.w.cell? ⟨g, k * 5 + 2, none⟩ = some (.int .i64 tt) := fun q => keep (HBL.out q) Y2.out
    have q9_3 : ∀ q : Γ.Wd, q.w.cell? ⟨g, k * 5 + 3, none⟩ = some (.int .i64 ad) := fun q => keep (HBL.out q) Y3.out
    have q9_4 : ∀ q : Γ.Wd, q.w.cell? ⟨g, k * 5 + 4, none⟩ = some (.string to) := fun q => keep (HBL.out q) Y4.out
    have HΓ := Hi hΓ
    clear hΓ
    have ne : Nonempty Γ.Wd := ⟨⟨[], x62, HST.out⟩⟩
    refine wp_region_H Γ 9 [6, 7] (by kernel_rfl) (by kernel_rfl) (by kernel_rfl) (by kernel_rfl) HST.out ?_
    simp only [List.take, List.drop]
    iterate 6 (first | (refine wpH_want (by kernel_rfl) (by kernel_rfl) rfl rfl ?_; intro K hK; go_big_quiet_op; go_big_quiet_on) | (refine wpH_is (by kernel_rfl) (by kernel_rfl) rfl _ (fun _ w _ => rfl) ?_; simp only [Act.put, l_T, l_S, l_Z]))
    refine wpH_chainX 0 (gnth 0) (gnth_lasts _ _) (by kernel_rfl) (by kernel_rfl) (fun a' g hg hgl he => ?_) (fun d hd => ?_)
    ·
     obtain ⟨h25, _⟩ := he
     have h25' : a'.eval (.tmp 51) = .agg #[.string nm2, .int .i64 kd, .int .i64 tt, .int .i64 ad, .string to] := h25
     refine wp_of_value (v := .slice (some ⟨g.w.heap.size, 0, none⟩) 1 1) (w' := g.w.alloc (.cells #[.string nm2, .int .i64 kd, .int .i64 tt, .int .i64 ad, .string to] 49)) (run_v_ok ?_) ⟨_, rfl, ?_, ?_⟩
     ·
      simp only [List.map_toArray, List.map_cons, List.map_nil, h25']
      exact run_bsRc9 _ _ _ _ _ _
     ·
      rw [← HΓ.out] at hg ⊢
      exact apS_build hg hgl
     ·
      have : g.vs = [] := List.eq_nil_of_length_eq_zero hgl
      rw [this]; rfl
    cases hd
    simp only [List.nil_append]
    refine wpH_chainX 1 (gnth 1) (gnth_lasts _ _) (by kernel_rfl) (by kernel_rfl) (fun a' g hg hgl he => ?_) (fun d hd => ?_)
    ·
     obtain ⟨h24, h26, _⟩ := he
     have h24' : a'.eval (.tmp 47) = .slice a1 m c1 := h24
     rw [← HΓ.out] at hg ⊢
     exact apS_app (.tmp 47) (.tmp 52) 50 rfl Tryz.underlying50 infoRc21 rfl (by decide) rfl rfl (oneRc _ _ _ _ _) (by unfold maxLen; omega) (by omega) hg hgl h24' h26
    cases hd
    simp only [List.cons_append, List.nil_append]
    iterate 1 (first | (refine wpH_want (by kernel_rfl) (by kernel_rfl) rfl rfl ?_; intro K hK; go_big_quiet_op; go_big_quiet_on) | (refine wpH_is (by kernel_rfl) (by kernel_rfl) rfl _ (fun _ w _ => rfl) ?_; simp only [Act.put, l_T, l_S, l_Z]))
    refine wpH_nil (by kernel_rfl) (by simp) ?_
    rintro ⟨vs5, x5⟩ hg hgl
    rw [← HΓ.out] at hg
    obtain ⟨s, v, hvs, hO⟩ := apS_end hg hgl
    obtain rfl : vs5 = [s, v] := hvs
    simp only [gexAll]
    rintro u52 - u53 hu53
    obtain rfl : v = u53 := by simpa [gnth] using hu53
    simp only [List.drop]
    clear ne HST hg hgl HΓ q2_5 q9_0 q9_1 q9_2 q9_3 q9_4 HBL hu53
    have HM9 := Hi (show (zaF nm true (l.take (k + 1))).length = m + 1 by rw [HF2.out, List.length_append, HM.out]; rfl)
    have e5 : (zaF nm true (l.take k)).flatMap cRc ++ cRc ⟨nm2, kd, tt, ad, to⟩ = (zaF nm true (l.take (k + 1))).flatMap cRc := by rw [HF2.out, List.flatMap_append]; simp
    simp only [l_S, l_Z, e5] at hO
    clear e5
    obtain ⟨va, vc, rfl⟩ := row_shape (hO.row 3 rfl)
    replace HO := Hi (show Own _ _ _ [_, _, _, rowR (.slice va (m + 1) vc) 49 5 (m + 1) ((zaF nm true (l.take (k + 1))).flatMap cRc)] from hO)
    clear hO
    have y2_5 := HO.out.frz 2 rfl 5
    have z2_5 : x5.cell? _ = some (.slice a1 m c1) := HO.out.cell 2 rfl 5 rfl
    obtain ⟨x61, hx61, hO⟩ := HO.out.setE 2 rfl 5 (.slice va (m + 1) vc)
    replace HO := Hi (show Own _ _ _ [_, _, blkR bd (.cells #[.int .i64 id, .bool true, .int .i64 0, .string nm, .int .i64 1, .slice va (m + 1) vc] 86), _] from hO)
    clear hO
    go_wp2
    go_roundw
    case rel => exact ⟨k + 1, m + 1, va, vc, by omega, by go_num, by rw [HB2.out], HM9.out, HO.out⟩
    case measure => simp [intOf]; omega
   ·
    go_wp2
    refine wp_region_B (by kernel_rfl) (by kernel_rfl) ?_
    repeat (go_big_quiet_step (fail))
    refine wpQuiet_nil ?_
    intro x61 hbw
    have hO := HO.out.stay hbw
    replace HO := Hi (show Own _ _ _ [_, _, blkR bd (.cells #[.int .i64 id, .bool true, .int .i64 0, .string nm, .int .i64 1, .slice a1 m c1] 86), rowR (.slice a1 m c1) 49 5 m ((zaF nm false (l.take k)).flatMap cRc)] from hO)
    clear hO hbw g0 g2_3
    have g0 := cell_regrown (keep HO.out.below Y0.out)
    have h2_3 := cell_regrown (show x61.cell? _ = some (.string nm) from HO.out.cell 2 rfl 3 rfl)
    go_wp2
    refine wp_region_B (by kernel_rfl) (by kernel_rfl) ?_
    repeat (go_big_quiet_step (fail))
    refine wpQuiet_nil ?_
    intro x62 hbw
    have hO := HO.out.stay hbw
    replace HO := Hi hO
    clear hO hbw g0 h2_3
    have HB2 := Hi (show zaB nm (l.take (k + 1)) = true by rw [HZB.out]; rfl)
    have HF2 := Hi (show zaF nm false (l.take (k + 1)) = zaF nm false (l.take k) ++ [⟨nm2, kd, tt, ad, to⟩] by rw [HZF.out]; rfl)
    go_wp2
    generalize hΓ : ghS w none0 (apS [blkR bq (.cells #[.int .i64 sv, .int .i64 pt, .string qs] 37), blkR br (.cells #[.int .i64 0, .int .i64 0, .string ⟨#[]⟩] 56), blkR bd (.cells #[.int .i64 id, .bool true, .int .i64 0, .string nm, .int .i64 1, .slice a1 m c1] 86), rowR (.slice a1 m c1) 49 5 m ((zaF nm false (l.take k)).flatMap cRc)] 3 (cRc ⟨nm2, kd, tt, ad, to⟩) 49 (fun v' => rowR v' 49 5 (m + 1) ((zaF nm false (l.take k)).flatMap cRc ++ cRc ⟨nm2, kd, tt, ad, to⟩))) = Γ
    have HST := Hi (show Γ.inv [] x62 by rw [← hΓ]; exact apS_start HO.out)
    have q2_5 : ∀ q : Γ.Wd, q.w.cell? ⟨bd, 5, none⟩ = some (.slice a1 m c1) := by rw [← hΓ]; exact apS_cell (c := #[.int .i64 id, .bool true, .int .i64 0, .string nm, .int .i64 1, .slice a1 m c1]) (t := 86) 2 rfl (by decide) 5 rfl
    have HBL := Hi (show ∀ q : Γ.Wd, Below w.heap.size w q.w by rw [← hΓ]; rintro ⟨vs, w9, L9, -, h9⟩; exact h9.below)
    have q9_0 : ∀ q : Γ.Wd, q.w.cell? ⟨g, k * 5, none⟩ = some (.string nm2) := fun q => keep (HBL.out q) Y0.out
    have q9_1 : ∀ q : Γ.Wd, q.w.cell? ⟨g, k * 5 + 1, none⟩ = some (.int .i64 kd) := fun q => keep (HBL.out q) Y1.out
    have q9_2 : ∀ q : Γ.Wd, q.w.cell? ⟨g, k * 5 + 2, none⟩ = some (.int .i64 tt) := fun q => keep (HBL.out q) Y2.out
    have q9_3 : ∀ q : Γ.Wd, q.w.cell? ⟨g, k * 5 + 3, none⟩ = some (.int .i64 ad) := fun q => keep (HBL.out q) Y3.out
    have q9_4 : ∀ q : Γ.Wd, q.w.cell? ⟨g, k * 5 + 4, none⟩ = some (.string to) := fun q => keep (HBL.out q) Y4.out
    have HΓ := Hi hΓ
    clear hΓ
    have ne : Nonempty Γ.Wd := ⟨⟨[], x62, HST.out⟩⟩
    refine wp_region_H Γ 9 [6, 7] (by kernel_rfl) (by kernel_rfl) (by kernel_rfl) (by kernel_rfl) HST.out ?_
    simp only [List.take, List.drop]
    iterate 6 (first | (refine wpH_want (by kernel_rfl) (by kernel_rfl) rfl rfl ?_; intro K hK; go_big_quiet_op; go_big_quiet_on) | (refine wpH_is (by kernel_rfl) (by kernel_rfl) rfl _ (fun _ w _ => rfl) ?_; simp only [Act.put, l_T, l_S, l_Z]))
    refine wpH_chainX 0 (gnth 0) (gnth_lasts _ _) (by kernel_rfl) (by kernel_rfl) (fun a' g hg hgl he => ?_) (fun d hd => ?_)
    ·
     obtain ⟨h25, _⟩ := he
     have h25' : a'.eval (.tmp 51) = .agg #[.string nm2, .int .i64 kd, .int .i64 tt, .int .i64 ad, .string to] := h25
     refine wp_of_value (v := .slice (some ⟨g.w.heap.size, 0, none⟩) 1 1) (w' := g.w.alloc (.cells #[.string nm2, .int .i64 kd, .int .i64 tt, .int .i64 ad, .string to] 49)) (run_v_ok ?_) ⟨_, rfl, ?_, ?_⟩
     ·
      simp only [List.map_toArray, List.map_cons, List.map_nil, h25']
      exact run_bsRc9 _ _ _ _ _ _
     ·
      rw [← HΓ.out] at hg ⊢
      exact apS_build hg hgl
     ·
      have : g.vs = [] := List.eq_nil_of_length_eq_zero hgl
      rw [this]; rfl
    cases hd
    simp only [List.nil_append]
    refine wpH_chainX 1 (gnth 1) (gnth_lasts _ _) (by kernel_rfl) (by kernel_rfl) (fun a' g hg hgl he => ?_) (fun d hd => ?_)
    ·
     obtain ⟨h24, h26, _⟩ := he
     have h24' : a'.eval (.tmp 47) = .slice a1 m c1 := h24
     rw [← HΓ.out] at hg ⊢
     exact apS_app (.tmp 47) (.tmp 52) 50 rfl Tryz.underlying50 infoRc21 rfl (by decide) rfl rfl (oneRc _ _ _ _ _) (by unfold maxLen; omega) (by omega) hg hgl h24' h26
    cases hd
    simp only [List.cons_append, List.nil_append]
    iterate 1 (first | (refine wpH_want (by kernel_rfl) (by kernel_rfl) rfl rfl ?_; intro K hK; go_big_quiet_op; go_big_quiet_on) | (refine wpH_is (by kernel_rfl) (by kernel_rfl) rfl _ (fun _ w _ => rfl) ?_; simp only [Act.put, l_T, l_S, l_Z]))
    refine wpH_nil (by kernel_rfl) (by simp) ?_
    rintro ⟨vs5, x5⟩ hg hgl
    rw [← HΓ.out] at hg
    obtain ⟨s, v, hvs, hO⟩ := apS_end hg hgl
    obtain rfl : vs5 = [s, v] := hvs
    simp only [gexAll]
    rintro u52 - u53 hu53
    obtain rfl : v = u53 := by simpa [gnth] using hu53
    simp only [List.drop]
    clear ne HST hg hgl HΓ q2_5 q9_0 q9_1 q9_2 q9_3 q9_4 HBL hu53
    have HM9 := Hi (show (zaF nm false (l.take (k + 1))).length = m + 1 by rw [HF2.out, List.length_append, HM.out]; rfl)
    have e5 : (zaF nm false (l.take k)).flatMap cRc ++ cRc ⟨nm2, kd, tt, ad, to⟩ = (zaF nm false (l.take (k + 1))).flatMap cRc := by rw [HF2.out, List.flatMap_append]; simp
    simp only [l_S, l_Z, e5] at hO
    clear e5
    obtain ⟨va, vc, rfl⟩ := row_shape (hO.row 3 rfl)
    replace HO := Hi (show Own _ _ _ [_, _, _, rowR (.slice va (m + 1) vc) 49 5 (m + 1) ((zaF nm false (l.take (k + 1))).flatMap cRc)] from hO)
    clear hO
    have y2_5 := HO.out.frz 2 rfl 5
    have z2_5 : x5.cell? _ = some (.slice a1 m c1) := HO.out.cell 2 rfl 5 rfl
    obtain ⟨x61, hx61, hO⟩ := HO.out.setE 2 rfl 5 (.slice va (m + 1) vc)
    replace HO := Hi (show Own _ _ _ [_, _, blkR bd (.cells #[.int .i64 id, .bool true, .int .i64 0, .string nm, .int .i64 1, .slice va (m + 1) vc] 86), _] from hO)
    clear hO
    go_wp2
    go_roundw
    case rel => exact ⟨k + 1, m + 1, va, vc, by omega, by go_num, by rw [HB2.out], HM9.out, HO.out⟩
    case measure => simp [intOf]; omega
   ·
    go_wp2
    refine wp_region_B (by kernel_rfl) (by kernel_rfl) ?_
    repeat (go_big_quiet_step (fail))
    refine wpQuiet_nil ?_
    intro x61 hbw
    have hO := HO.out.stay hbw
    replace HO := Hi (show Own _ _ _ [_, _, blkR bd (.cells #[.int .i64 id, .bool true, .int .i64 0, .string nm, .int .i64 1, .slice a1 m c1] 86), rowR (.slice a1 m c1) 49 5 m ((zaF nm true (l.take k)).flatMap cRc)] from hO)
    clear hO hbw g0 g2_3
    have g0 := cell_regrown (keep HO.out.below Y0.out)
    have h2_3 := cell_regrown (show x61.cell? _ = some (.string nm) from HO.out.cell 2 rfl 3 rfl)
    go_wp2
    refine wp_region_B (by kernel_rfl) (by kernel_rfl) ?_
    repeat (go_big_quiet_step (fail))
    refine wpQuiet_nil ?_
    intro x62 hbw
    have hO := HO.out.stay hbw
    replace HO := Hi hO
    clear hO hbw g0 h2_3
    have HB2 := Hi (show zaB nm (l.take (k + 1)) = true by rw [HZB.out]; rfl)
    have HF2 := Hi (show zaF nm true (l.take (k + 1)) = zaF nm true (l.take k) ++ [⟨nm2, kd, tt, ad, to⟩] by rw [HZF.out]; rfl)
    go_wp2
    generalize hΓ : ghS w none0 (apS [blkR bq (.cells #[.int .i64 sv, .int .i64 pt, .string qs] 37), blkR br (.cells #[.int .i64 0, .int .i64 0, .string ⟨#[]⟩] 56), blkR bd (.cells #[.int .i64 id, .bool true, .int .i64 0, .string nm, .int .i64 1, .slice a1 m c1] 86), rowR (.slice a1 m c1) 49 5 m ((zaF nm true (l.take k)).flatMap cRc)] 3 (cRc ⟨nm2, kd, tt, ad, to⟩) 49 (fun v' => rowR v' 49 5 (m + 1) ((zaF nm true (l.take k)).flatMap cRc ++ cRc ⟨nm2, kd, tt, ad, to⟩))) = Γ
    have HST := Hi (show Γ.inv [] x62 by rw [← hΓ]; exact apS_start HO.out)
    have q2_5 : ∀ q : Γ.Wd, q.w.cell? ⟨bd, 5, none⟩ = some (.slice a1 m c1) := by rw [← hΓ]; exact apS_cell (c := #[.int .i64 id, .bool true, .int .i64 0, .string nm, .int .i64 1, .slice a1 m c1]) (t := 86) 2 rfl (by decide) 5 rfl
    have HBL := Hi (show ∀ q : Γ.Wd, Below w.heap.size w q.w by rw [← hΓ]; rintro ⟨vs, w9, L9, -, h9⟩; exact h9.below)
    have q9_0 : ∀ q : Γ.Wd, q.w.cell? ⟨g, k * 5, none⟩ = some (.string nm2) := fun q => keep (HBL.out q) Y0.out
    have q9_1 : ∀ q : Γ.Wd, q.w.cell? ⟨g, k * 5 + 1, none⟩ = some (.int .i64 kd) := fun q => keep (HBL.out q) Y1.out
    have q9_2 : ∀ q : Γ.Wd, q.w.cell? ⟨g, k * 5 + 2, none⟩ = some (.int .i64 tt) := fun q => keep (HBL.out q) Y2.out
    have q9_3 : ∀ q : Γ.Wd, q.w.cell? ⟨g, k * 5 + 3, none⟩ = some (.int .i64 ad) := fun q => keep (HBL.out q) Y3.out
    have q9_4 : ∀ q : Γ.Wd, q.w.cell? ⟨g, k * 5 + 4, none⟩ = some (.string to) := fun q => keep (HBL.out q) Y4.out
    have HΓ := Hi hΓ
    clear hΓ
    have ne : Nonempty Γ.Wd := ⟨⟨[], x62, HST.out⟩⟩
    refine wp_region_H Γ 9 [6, 7] (by kernel_rfl) (by kernel_rfl) (by kernel_rfl) (by kernel_rfl) HST.out ?_
    simp only [List.take, List.drop]
    iterate 6 (first | (refine wpH_want (by kernel_rfl) (by kernel_rfl) rfl rfl ?_; intro K hK; go_big_quiet_op; go_big_quiet_on) | (refine wpH_is (by kernel_rfl) (by kernel_rfl) rfl _ (fun _ w _ => rfl) ?_; simp only [Act.put, l_T, l_S, l_Z]))
    refine wpH_chainX 0 (gnth 0) (gnth_lasts _ _) (by kernel_rfl) (by kernel_rfl) (fun a' g hg hgl he => ?_) (fun d hd => ?_)
    ·
     obtain ⟨h25, _⟩ := he
     have h25' : a'.eval (.tmp 51) = .agg #[.string nm2, .int .i64 kd, .int .i64 tt, .int .i64 ad, .string to] := h25
     refine wp_of_value (v := .slice (some ⟨g.w.heap.size, 0, none⟩) 1 1) (w' := g.w.alloc (.cells #[.string nm2, .int .i64 kd, .int .i64 tt, .int .i64 ad, .string to] 49)) (run_v_ok ?_) ⟨_, rfl, ?_, ?_⟩
     ·
      simp only [List.map_toArray, List.map_cons, List.map_nil, h25']
      exact run_bsRc9 _ _ _ _ _ _
     ·
      rw [← HΓ.out] at hg ⊢
      exact apS_build hg hgl
     ·
      have : g.vs = [] := List.eq_nil_of_length_eq_zero hgl
      rw [this]; rfl
    cases hd
    simp only [List.nil_append]
    refine wpH_chainX 1 (gnth 1) (gnth_lasts _ _) (by kernel_rfl) (by kernel_rfl) (fun a' g hg hgl he => ?_) (fun d hd => ?_)
    ·
     obtain ⟨h24, h26, _⟩ := he
     have h24' : a'.eval (.tmp 47) = .slice a1 m c1 := h24
     rw [← HΓ.out] at hg ⊢
     exact apS_app (.tmp 47) (.tmp 52) 50 rfl Tryz.underlying50 infoRc21 rfl (by decide) rfl rfl (oneRc _ _ _ _ _) (by unfold maxLen; omega) (by omega) hg hgl h24' h26
    cases hd
    simp only [List.cons_append, List.nil_append]
    iterate 1 (first | (refine wpH_want (by kernel_rfl) (by kernel_rfl) rfl rfl ?_; intro K hK; go_big_quiet_op; go_big_quiet_on) | (refine wpH_is (by kernel_rfl) (by kernel_rfl) rfl _ (fun _ w _ => rfl) ?_; simp only [Act.put, l_T, l_S, l_Z]))
    refine wpH_nil (by kernel_rfl) (by simp) ?_
    rintro ⟨vs5, x5⟩ hg hgl
    rw [← HΓ.out] at hg
    obtain ⟨s, v, hvs, hO⟩ := apS_end hg hgl
    obtain rfl : vs5 = [s, v] := hvs
    simp only [gexAll]
    rintro u52 - u53 hu53
    obtain rfl : v = u53 := by simpa [gnth] using hu53
    simp only [List.drop]
    clear ne HST hg hgl HΓ q2_5 q9_0 q9_1 q9_2 q9_3 q9_4 HBL hu53
    have HM9 := Hi (show (zaF nm true (l.take (k + 1))).length = m + 1 by rw [HF2.out, List.length_append, HM.out]; rfl)
    have e5 : (zaF nm true (l.take k)).flatMap cRc ++ cRc ⟨nm2, kd, tt, ad, to⟩ = (zaF nm true (l.take (k + 1))).flatMap cRc := by rw [HF2.out, List.flatMap_append]; simp
    simp only [l_S, l_Z, e5] at hO
    clear e5
    obtain ⟨va, vc, rfl⟩ := row_shape (hO.row 3 rfl)
    replace HO := Hi (show Own _ _ _ [_, _, _, rowR (.slice va (m + 1) vc) 49 5 (m + 1) ((zaF nm true (l.take (k + 1))).flatMap cRc)] from hO)
    clear hO
    have y2_5 := HO.out.frz 2 rfl 5
    have z2_5 : x5.cell? _ = some (.slice a1 m c1) := HO.out.cell 2 rfl 5 rfl
    obtain ⟨x61, hx61, hO⟩ := HO.out.setE 2 rfl 5 (.slice va (m + 1) vc)
    replace HO := Hi (show Own _ _ _ [_, _, blkR bd (.cells #[.int .i64 id, .bool true, .int .i64 0, .string nm, .int .i64 1, .slice va (m + 1) vc] 86), _] from hO)
    clear hO
    go_wp2
    go_roundw
    case rel => exact ⟨k + 1, m + 1, va, vc, by omega, by go_num, by rw [HB2.out], HM9.out, HO.out⟩
    case measure => simp [intOf]; omega
   ·
    go_wp2
    refine wp_region_B (by kernel_rfl) (by kernel_rfl) ?_
    repeat (go_big_quiet_step (fail))
    refine wpQuiet_nil ?_
    intro x61 hbw
    have hO := HO.out.stay hbw
    replace HO := Hi (show Own _ _ _ [_, _, blkR bd (.cells #[.int .i64 id, .bool true, .int .i64 0, .string nm, .int .i64 1, .slice a1 m c1] 86), rowR (.slice a1 m c1) 49 5 m ((zaF nm false (l.take k)).flatMap cRc)] from hO)
    clear hO hbw g0 g2_3
    have g0 := cell_regrown (keep HO.out.below Y0.out)
    have h2_3 := cell_regrown (show x61.cell? _ = some (.string nm) from HO.out.cell 2 rfl 3 rfl)
    go_wp2
    refine wp_region_B (by kernel_rfl) (by kernel_rfl) ?_
    repeat (go_big_quiet_step (fail))
    refine wpQuiet_nil ?_
    intro x62 hbw
    have hO := HO.out.stay hbw
    replace HO := Hi hO
    clear hO hbw g0 h2_3
    have HB2 := Hi (show zaB nm (l.take (k + 1)) = true by rw [HZB.out]; rfl)
    have HF2 := Hi (show zaF nm false (l.take (k + 1)) = zaF nm false (l.take k) by rw [HZF.out]; simp)
    go_wp2
    go_roundw
    case rel => exact ⟨k + 1, m, a1, c1, by omega, by go_num, by rw [HB2.out], by rw [HF2.out, HM.out], by rw [HF2.out]; exact HO.out⟩
    case measure => simp [intOf]; omega
   ·
    go_wp2
    refine wp_region_B (by kernel_rfl) (by kernel_rfl) ?_
    repeat (go_big_quiet_step (fail))
    refine wpQuiet_nil ?_
    intro x61 hbw
    have hO := HO.out.stay hbw
    replace HO := Hi (show Own _ _ _ [_, _, _, rowR (.slice a1 m c1) 49 5 m ((zaF nm true (l.take k)).flatMap cRc)] from hO)
    clear hO hbw g0 g2_3
    have g0 := cell_regrown (keep HO.out.below Y0.out)
    have h2_3 := cell_regrown (show x61.cell? _ = some (.string nm) from HO.out.cell 2 rfl 3 rfl)
    go_wp2
    refine wp_region_B (by kernel_rfl) (by kernel_rfl) ?_
    repeat (go_big_quiet_step (fail))
    refine wpQuiet_nil ?_
    intro x62 hbw
    have hO := HO.out.stay hbw
    replace HO := Hi hO
    clear hO hbw g0 h2_3
    have HB2 := Hi (show zaB nm (l.take (k + 1)) = true by rw [HZB.out]; rfl)
    have HF2 := Hi (show zaF nm true (l.take (k + 1)) = zaF nm true (l.take k) ++ [⟨nm2, kd, tt, ad, to⟩] by rw [HZF.out]; rfl)
    go_wp2
    generalize hΓ : ghS w none0 (apS [blkR bq (.cells #[.int .i64 sv, .int .i64 pt, .string qs] 37), blkR br (.cells #[.int .i64 0, .int .i64 0, .string ⟨#[]⟩] 56), blkR bd (.cells #[.int .i64 id, .bool true, .int .i64 0, .string nm, .int .i64 1, .slice a1 m c1] 86), rowR (.slice a1 m c1) 49 5 m ((zaF nm true (l.take k)).flatMap cRc)] 3 (cRc ⟨nm2, kd, tt, ad, to⟩) 49 (fun v' => rowR v' 49 5 (m + 1) ((zaF nm true (l.take k)).flatMap cRc ++ cRc ⟨nm2, kd, tt, ad, to⟩))) = Γ
    have HST := Hi (show Γ.inv [] x62 by rw [← hΓ]; exact apS_start HO.out)
    have q2_5 : ∀ q : Γ.Wd, q.w.cell? ⟨bd, 5, none⟩ = some (.slice a1 m c1) := by rw [← hΓ]; exact apS_cell (c := #[.int .i64 id, .bool true, .int .i64 0, .string nm, .int .i64 1, .slice a1 m c1]) (t := 86) 2 rfl (by decide) 5 rfl
    have HBL := Hi (show ∀ q : Γ.Wd, Below w.heap.size w q.w by rw [← hΓ]; rintro ⟨vs, w9, L9, -, h9⟩; exact h9.below)
    have q9_0 : ∀ q : Γ.Wd, q.w.cell? ⟨g, k * 5, none⟩ = some (.string nm2) := fun q => keep (HBL.out q) Y0.out
    have q9_1 : ∀ q : Γ.Wd, q.w.cell? ⟨g, k * 5 + 1, none⟩ = some (.int .i64 kd) := fun q => keep (HBL.out q) Y1.out
    have q9_2 : ∀ q : Γ.Wd, q.w.cell? ⟨g, k * 5 + 2, none⟩ = some (.int .i64 tt) := fun q => keep (HBL.out q) Y2.out
    have q9_3 : ∀ q : Γ.Wd, q.w.cell? ⟨g, k * 5 + 3, none⟩ = some (.int .i64 ad) := fun q => keep (HBL.out q) Y3.out
    have q9_4 : ∀ q : Γ.Wd, q.w.cell? ⟨g, k * 5 + 4, none⟩ = some (.string to) := fun q => keep (HBL.out q) Y4.out
    have HΓ := Hi hΓ
    clear hΓ
    have ne : Nonempty Γ.Wd := ⟨⟨[], x62, HST.out⟩⟩
    refine wp_region_H Γ 9 [6, 7] (by kernel_rfl) (by kernel_rfl) (by kernel_rfl) (by kernel_rfl) HST.out ?_
    simp only [List.take, List.drop]
    iterate 6 (first | (refine wpH_want (by kernel_rfl) (by kernel_rfl) rfl rfl ?_; intro K hK; go_big_quiet_op; go_big_quiet_on) | (refine wpH_is (by kernel_rfl) (by kernel_rfl) rfl _ (fun _ w _ => rfl) ?_; simp only [Act.put, l_T, l_S, l_Z]))
    refine wpH_chainX 0 (gnth 0) (gnth_lasts _ _) (by kernel_rfl) (by kernel_rfl) (fun a' g hg hgl he => ?_) (fun d hd => ?_)
    ·
     obtain ⟨h25, _⟩ := he
     have h25' : a'.eval (.tmp 51) = .agg #[.string nm2, .int .i64 kd, .int .i64 tt, .int .i64 ad, .string to] := h25
     refine wp_of_value (v := .slice (some ⟨g.w.heap.size, 0, none⟩) 1 1) (w' := g.w.alloc (.cells #[.string nm2, .int .i64 kd, .int .i64 tt, .int .i64 ad, .string to] 49)) (run_v_ok ?_) ⟨_, rfl, ?_, ?_⟩
     ·
      simp only [List.map_toArray, List.map_cons, List.map_nil, h25']
      exact run_bsRc9 _ _ _ _ _ _
     ·
      rw [← HΓ.out] at hg ⊢
      exact apS_build hg hgl
     ·
      have : g.vs = [] := List.eq_nil_of_length_eq_zero hgl
      rw [this]; rfl
    cases hd
    simp only [List.nil_append]
    refine wpH_chainX 1 (gnth 1) (gnth_lasts _ _) (by kernel_rfl) (by kernel_rfl) (fun a' g hg hgl he => ?_) (fun d hd => ?_)
    ·
     obtain ⟨h24, h26, _⟩ := he
     have h24' : a'.eval (.tmp 47) = .slice a1 m c1 := h24
     rw [← HΓ.out] at hg ⊢
     exact apS_app (.tmp 47) (.tmp 52) 50 rfl Tryz.underlying50 infoRc21 rfl (by decide) rfl rfl (oneRc _ _ _ _ _) (by unfold maxLen; omega) (by omega) hg hgl h24' h26
    cases hd
    simp only [List.cons_append, List.nil_append]
    iterate 1 (first | (refine wpH_want (by kernel_rfl) (by kernel_rfl) rfl rfl ?_; intro K hK; go_big_quiet_op; go_big_quiet_on) | (refine wpH_is (by kernel_rfl) (by kernel_rfl) rfl _ (fun _ w _ => rfl) ?_; simp only [Act.put, l_T, l_S, l_Z]))
    refine wpH_nil (by kernel_rfl) (by simp) ?_
    rintro ⟨vs5, x5⟩ hg hgl
    rw [← HΓ.out] at hg
    obtain ⟨s, v, hvs, hO⟩ := apS_end hg hgl
    obtain rfl : vs5 = [s, v] := hvs
    simp only [gexAll]
    rintro u52 - u53 hu53
    obtain rfl : v = u53 := by simpa [gnth] using hu53
    simp only [List.drop]
    clear ne HST hg hgl HΓ q2_5 q9_0 q9_1 q9_2 q9_3 q9_4 HBL hu53
    have HM9 := Hi (show (zaF nm true (l.take (k + 1))).length = m + 1 by rw [HF2.out, List.length_append, HM.out]; rfl)
    have e5 : (zaF nm true (l.take k)).flatMap cRc ++ cRc ⟨nm2, kd, tt, ad, to⟩ = (zaF nm true (l.take (k + 1))).flatMap cRc := by rw [HF2.out, List.flatMap_append]; simp
    simp only [l_S, l_Z, e5] at hO
    clear e5
    obtain ⟨va, vc, rfl⟩ := row_shape (hO.row 3 rfl)
    replace HO := Hi (show Own _ _ _ [_, _, _, rowR (.slice va (m + 1) vc) 49 5 (m + 1) ((zaF nm true (l.take (k + 1))).flatMap cRc)] from hO)
    clear hO
    have y2_5 := HO.out.frz 2 rfl 5
    have z2_5 : x5.cell? _ = some (.slice a1 m c1) := HO.out.cell 2 rfl 5 rfl
    obtain ⟨x61, hx61, hO⟩ := HO.out.setE 2 rfl 5 (.slice va (m + 1) vc)
    replace HO := Hi (show Own _ _ _ [_, _, blkR bd (.cells #[.int .i64 id, .bool true, .int .i64 0, .string nm, .int .i64 1, .slice va (m + 1) vc] 86), _] from hO)
    clear hO
    go_wp2
    go_roundw
    case rel => exact ⟨k + 1, m + 1, va, vc, by omega, by go_num, by rw [HB2.out], HM9.out, HO.out⟩
    case measure => simp [intOf]; omega
   ·
    go_wp2
    refine wp_region_B (by kernel_rfl) (by kernel_rfl) ?_
    repeat (go_big_quiet_step (fail))
    refine wpQuiet_nil ?_
    intro x61 hbw
    have hO := HO.out.stay hbw
    replace HO := Hi (show Own _ _ _ [_, _, blkR bd (.cells #[.int .i64 id, .bool true, .int .i64 0, .string nm, .int .i64 1, .slice a1 m c1] 86), rowR (.slice a1 m c1) 49 5 m ((zaF nm false (l.take k)).flatMap cRc)] from hO)
    clear hO hbw g0 g2_3
    have g0 := cell_regrown (keep HO.out.below Y0.out)
    have h2_3 := cell_regrown (show x61.cell? _ = some (.string nm) from HO.out.cell 2 rfl 3 rfl)
    go_wp2
    refine wp_region_B (by kernel_rfl) (by kernel_rfl) ?_
    repeat (go_big_quiet_step (fail))
    refine wpQuiet_nil ?_
    intro x62 hbw
    have hO := HO.out.stay hbw
    replace HO := Hi hO
    clear hO hbw g0 h2_3
    have HB2 := Hi (show zaB nm (l.take (k + 1)) = true by rw [HZB.out]; rfl)
    have HF2 := Hi (show zaF nm false (l.take (k + 1)) = zaF nm false (l.take k) ++ [⟨nm2, kd, tt, ad, to⟩] by rw [HZF.out]; rfl)
    go_wp2
    generalize hΓ : ghS w none0 (apS [blkR bq (.cells #[.int .i64 sv, .int .i64 pt, .string qs] 37), blkR br (.cells #[.int .i64 0, .int .i64 0, .string ⟨#[]⟩] 56), blkR bd (.cells #[.int .i64 id, .bool true, .int .i64 0, .string nm, .int .i64 1, .slice a1 m c1] 86), rowR (.slice a1 m c1) 49 5 m ((zaF nm false (l.take k)).flatMap cRc)] 3 (cRc ⟨nm2, kd, tt, ad, to⟩) 49 (fun v' => rowR v' 49 5 (m + 1) ((zaF nm false (l.take k)).flatMap cRc ++ cRc ⟨nm2, kd, tt, ad, to⟩))) = Γ
    have HST := Hi (show Γ.inv [] x62 by rw [← hΓ]; exact apS_start HO.out)
    have q2_5 : ∀ q : Γ.Wd, q.w.cell? ⟨bd, 5, none⟩ = some (.slice a1 m c1) := by rw [← hΓ]; exact apS_cell (c := #[.int .i64 id, .bool true, .int .i64 0, .string nm, .int .i64 1, .slice a1 m c1]) (t := 86) 2 rfl (by decide) 5 rfl
    have HBL := Hi (show ∀ q : Γ.Wd, Below w.heap.size w q.w by rw [← hΓ]; rintro ⟨vs, w9, L9, -, h9⟩; exact h9.below)
    have q9_0 : ∀ q : Γ.Wd, q.w.cell? ⟨g, k * 5, none⟩ = some (.string nm2) := fun q => keep (HBL.out q) Y0.out
    have q9_1 : ∀ q : Γ.Wd, q.w.cell? ⟨g, k * 5 + 1, none⟩ = some (.int .i64 kd) := fun q => keep (HBL.out q) Y1.out
    have q9_2 : ∀ q : Γ.Wd, q.w.cell? ⟨g, k * 5 + 2, none⟩ = some (.int .i64 tt) := fun q => keep (HBL.out q) Y2.out
    have q9_3 : ∀ q : Γ.Wd, q.w.cell? ⟨g, k * 5 + 3, none⟩ = some (.int .i64 ad) := fun q => keep (HBL.out q) Y3.out
    have q9_4 : ∀ q : Γ.Wd, q.w.cell? ⟨g, k * 5 + 4, none⟩ = some (.string to) := fun q => keep (HBL.out q) Y4.out
    have HΓ := Hi hΓ
    clear hΓ
    have ne : Nonempty Γ.Wd := ⟨⟨[], x62, HST.out⟩⟩
    refine wp_region_H Γ 9 [6, 7] (by kernel_rfl) (by kernel_rfl) (by kernel_rfl) (by kernel_rfl) HST.out ?_
    simp only [List.take, List.drop]
    iterate 6 (first | (refine wpH_want (by kernel_rfl) (by kernel_rfl) rfl rfl ?_; intro K hK; go_big_quiet_op; go_big_quiet_on) | (refine wpH_is (by kernel_rfl) (by kernel_rfl) rfl _ (fun _ w _ => rfl) ?_; simp only [Act.put, l_T, l_S, l_Z]))
    refine wpH_chainX 0 (gnth 0) (gnth_lasts _ _) (by kernel_rfl) (by kernel_rfl) (fun a' g hg hgl he => ?_) (fun d hd => ?_)
    ·
     obtain ⟨h25, _⟩ := he
     have h25' : a'.eval (.tmp 51) = .agg #[.string nm2, .int .i64 kd, .int .i64 tt, .int .i64 ad, .string to] := h25
     refine wp_of_value (v := .slice (some ⟨g.w.heap.size, 0, none⟩) 1 1) (w' := g.w.alloc (.cells #[.string nm2, .int .i64 kd, .int .i64 tt, .int .i64 ad, .string to] 49)) (run_v_ok ?_) ⟨_, rfl, ?_, ?_⟩
     ·
      simp only [List.map_toArray, List.map_cons, List.map_nil, h25']
      exact run_bsRc9 _ _ _ _ _ _
     ·
      rw [← HΓ.out] at hg ⊢
      exact apS_build hg hgl
     ·
      have : g.vs = [] := List.eq_nil_of_length_eq_zero hgl
      rw [this]; rfl
    cases hd
    simp only [List.nil_append]
    refine wpH_chainX 1 (gnth 1) (gnth_lasts _ _) (by kernel_rfl) (by kernel_rfl) (fun a' g hg hgl he => ?_) (fun d hd => ?_)
    ·
     obtain ⟨h24, h26, _⟩ := he
     have h24' : a'.eval (.tmp 47) = .slice a1 m c1 := h24
     rw [← HΓ.out] at hg ⊢
     exact apS_app (.tmp 47) (.tmp 52) 50 rfl Tryz.underlying50 infoRc21 rfl (by decide) rfl rfl (oneRc _ _ _ _ _) (by unfold maxLen; omega) (by omega) hg hgl h24' h26
    cases hd
    simp only [List.cons_append, List.nil_append]
    iterate 1 (first | (refine wpH_want (by kernel_rfl) (by kernel_rfl) rfl rfl ?_; intro K hK; go_big_quiet_op; go_big_quiet_on) | (refine wpH_is (by kernel_rfl) (by kernel_rfl) rfl _ (fun _ w _ => rfl) ?_; simp only [Act.put, l_T, l_S, l_Z]))
    refine wpH_nil (by kernel_rfl) (by simp) ?_
    rintro ⟨vs5, x5⟩ hg hgl
    rw [← HΓ.out] at hg
    obtain ⟨s, v, hvs, hO⟩ := apS_end hg hgl
    obtain rfl : vs5 = [s, v] := hvs
    simp only [gexAll]
    rintro u52 - u53 hu53
    obtain rfl : v = u53 := by simpa [gnth] using hu53
    simp only [List.drop]
    clear ne HST hg hgl HΓ q2_5 q9_0 q9_1 q9_2 q9_3 q9_4 HBL hu53
    have HM9 := Hi (show (zaF nm false (l.take (k + 1))).length = m + 1 by rw [HF2.out, List.length_append, HM.out]; rfl)
    have e5 : (zaF nm false (l.take k)).flatMap cRc ++ cRc ⟨nm2, kd, tt, ad, to⟩ = (zaF nm false (l.take (k + 1))).flatMap cRc := by rw [HF2.out, List.flatMap_append]; simp
    simp only [l_S, l_Z, e5] at hO
    clear e5
    obtain ⟨va, vc, rfl⟩ := row_shape (hO.row 3 rfl)
    replace HO := Hi (show Own _ _ _ [_, _, _, rowR (.slice va (m + 1) vc) 49 5 (m + 1) ((zaF nm false (l.take (k + 1))).flatMap cRc)] from hO)
    clear hO
    have y2_5 := HO.out.frz 2 rfl 5
    have z2_5 : x5.cell? _ = some (.slice a1 m c1) := HO.out.cell 2 rfl 5 rfl
    obtain ⟨x61, hx61, hO⟩ := HO.out.setE 2 rfl 5 (.slice va (m + 1) vc)
    replace HO := Hi (show Own _ _ _ [_, _, blkR bd (.cells #[.int .i64 id, .bool true, .int .i64 0, .string nm, .int .i64 1, .slice va (m + 1) vc] 86), _] from hO)
    clear hO
    go_wp2
    go_roundw
    case rel => exact ⟨k + 1, m + 1, va, vc, by omega, by go_num, by rw [HB2.out], HM9.out, HO.out⟩
    case measure => simp [intOf]; omega
   ·
    go_wp2
    refine wp_region_B (by kernel_rfl) (by kernel_rfl) ?_
    repeat (go_big_quiet_step (fail))
    refine wpQuiet_nil ?_
    intro x61 hbw
    have hO := HO.out.stay hbw
    replace HO := Hi (show Own _ _ _ [_, _, blkR bd (.cells #[.int .i64 id, .bool true, .int .i64 0, .string nm, .int .i64 1, .slice a1 m c1] 86), rowR (.slice a1 m c1) 49 5 m ((zaF nm true (l.take k)).flatMap cRc)] from hO)
    clear hO hbw g0 g2_3
    have g0 := cell_regrown (keep HO.out.below Y0.out)
    have h2_3 := cell_regrown (show x61.cell? _ = some (.string nm) from HO.out.cell 2 rfl 3 rfl)
    go_wp2
    refine wp_region_B (by kernel_rfl) (by kernel_rfl) ?_
    repeat (go_big_quiet_step (fail))
    refine wpQuiet_nil ?_
    intro x62 hbw
    have hO := HO.out.stay hbw
    replace HO := Hi hO
    clear hO hbw g0 h2_3
    have HB2 := Hi (show zaB nm (l.take (k + 1)) = true by rw [HZB.out]; rfl)
    have HF2 := Hi (show zaF nm true (l.take (k + 1)) = zaF nm true (l.take k) ++ [⟨nm2, kd, tt, ad, to⟩] by rw [HZF.out]; rfl)
    go_wp2
    generalize hΓ : ghS w none0 (apS [blkR bq (.cells #[.int .i64 sv, .int .i64 pt, .string qs] 37), blkR br (.cells #[.int .i64 0, .int .i64 0, .string ⟨#[]⟩] 56), blkR bd (.cells #[.int .i64 id, .bool true, .int .i64 0, .string nm, .int .i64 1, .slice a1 m c1] 86), rowR (.slice a1 m c1) 49 5 m ((zaF nm true (l.take k)).flatMap cRc)] 3 (cRc ⟨nm2, kd, tt, ad, to⟩) 49 (fun v' => rowR v' 49 5 (m + 1) ((zaF nm true (l.take k)).flatMap cRc ++ cRc ⟨nm2, kd, tt, ad, to⟩))) = Γ
    have HST := Hi (show Γ.inv [] x62 by rw [← hΓ]; exact apS_start HO.out)
    have q2_5 : ∀ q : Γ.Wd, q.w.cell? ⟨bd, 5, none⟩ = some (.slice a1 m c1) := by rw [← hΓ]; exact apS_cell (c := #[.int .i64 id, .bool true, .int .i64 0, .string nm, .int .i64 1, .slice a1 m c1]) (t := 86) 2 rfl (by decide) 5 rfl
    have HBL := Hi (show ∀ q : Γ.Wd, Below w.heap.size w q.w by rw [← hΓ]; rintro ⟨vs, w9, L9, -, h9⟩; exact h9.below)
    have q9_0 : ∀ q : Γ.Wd, q.w.cell? ⟨g, k * 5, none⟩ = some (.string nm2) := fun q => keep (HBL.out q) Y0.out
    have q9_1 : ∀ q : Γ.Wd, q.w.cell? ⟨g, k * 5 + 1, none⟩ = some (.int .i64 kd) := fun q => keep (HBL.out q) Y1.out
    have q9_2 : ∀ q : Γ.Wd, q.w.cell? ⟨g, k * 5 + 2, none⟩ = some (.int .i64 tt) := fun q => keep (HBL.out q) Y2.out
    have q9_3 : ∀ q : Γ.Wd, q.w.cell? ⟨g, k * 5 + 3, none⟩ = some (.int .i64 ad) := fun q => keep (HBL.out q) Y3.out
    have q9_4 : ∀ q : Γ.Wd, q.w.cell? ⟨g, k * 5 + 4, none⟩ = some (.string to) := fun q => keep (HBL.out q) Y4.out
    have HΓ := Hi hΓ
    clear hΓ
    have ne : Nonempty Γ.Wd := ⟨⟨[], x62, HST.out⟩⟩
    refine wp_region_H Γ 9 [6, 7] (by kernel_rfl) (by kernel_rfl) (by kernel_rfl) (by kernel_rfl) HST.out ?_
    simp only [List.take, List.drop]
    iterate 6 (first | (refine wpH_want (by kernel_rfl) (by kernel_rfl) rfl rfl ?_; intro K hK; go_big_quiet_op; go_big_quiet_on) | (refine wpH_is (by kernel_rfl) (by kernel_rfl) rfl _ (fun _ w _ => rfl) ?_; simp only [Act.put, l_T, l_S, l_Z]))
    refine wpH_chainX 0 (gnth 0) (gnth_lasts _ _) (by kernel_rfl) (by kernel_rfl) (fun a' g hg hgl he => ?_) (fun d hd => ?_)
    ·
     obtain ⟨h25, _⟩ := he
     have h25' : a'.eval (.tmp 51) = .agg #[.string nm2, .int .i64 kd, .int .i64 tt, .int .i64 ad, .string to] := h25
     refine wp_of_value (v := .slice (some ⟨g.w.heap.size, 0, none⟩) 1 1) (w' := g.w.alloc (.cells #[.string nm2, .int .i64 kd, .int .i64 tt, .int .i64 ad, .string to] 49)) (run_v_ok ?_) ⟨_, rfl, ?_, ?_⟩
     ·
      simp only [List.map_toArray, List.map_cons, List.map_nil, h25']
      exact run_bsRc9 _ _ _ _ _ _
     ·
      rw [← HΓ.out] at hg ⊢
      exact apS_build hg hgl
     ·
      have : g.vs = [] := List.eq_nil_of_length_eq_zero hgl
      rw [this]; rfl
    cases hd
    simp only [List.nil_append]
    refine wpH_chainX 1 (gnth 1) (gnth_lasts _ _) (by kernel_rfl) (by kernel_rfl) (fun a' g hg hgl he => ?_) (fun d hd => ?_)
    ·
     obtain ⟨h24, h26, _⟩ := he
     have h24' : a'.eval (.tmp 47) = .slice a1 m c1 := h24
     rw [← HΓ.out] at hg ⊢
     exact apS_app (.tmp 47) (.tmp 52) 50 rfl Tryz.underlying50 infoRc21 rfl (by decide) rfl rfl (oneRc _ _ _ _ _) (by unfold maxLen; omega) (by omega) hg hgl h24' h26
    cases hd
    simp only [List.cons_append, List.nil_append]
    iterate 1 (first | (refine wpH_want (by kernel_rfl) (by kernel_rfl) rfl rfl ?_; intro K hK; go_big_quiet_op; go_big_quiet_on) | (refine wpH_is (by kernel_rfl) (by kernel_rfl) rfl _ (fun _ w _ => rfl) ?_; simp only [Act.put, l_T, l_S, l_Z]))
    refine wpH_nil (by kernel_rfl) (by simp) ?_
    rintro ⟨vs5, x5⟩ hg hgl
    rw [← HΓ.out] at hg
    obtain ⟨s, v, hvs, hO⟩ := apS_end hg hgl
    obtain rfl : vs5 = [s, v] := hvs
    simp only [gexAll]
    rintro u52 - u53 hu53
    obtain rfl : v = u53 := by simpa [gnth] using hu53
    simp only [List.drop]
    clear ne HST hg hgl HΓ q2_5 q9_0 q9_1 q9_2 q9_3 q9_4 HBL hu53
    have HM9 := Hi (show (zaF nm true (l.take (k + 1))).length = m + 1 by rw [HF2.out, List.length_append, HM.out]; rfl)
    have e5 : (zaF nm true (l.take k)).flatMap cRc ++ cRc ⟨nm2, kd, tt, ad, to⟩ = (zaF nm true (l.take (k + 1))).flatMap cRc := by rw [HF2.out, List.flatMap_append]; simp
    simp only [l_S, l_Z, e5] at hO
    clear e5
    obtain ⟨va, vc, rfl⟩ := row_shape (hO.row 3 rfl)
    replace HO := Hi (show Own _ _ _ [_, _, _, rowR (.slice va (m + 1) vc) 49 5 (m + 1) ((zaF nm true (l.take (k + 1))).flatMap cRc)] from hO)
    clear hO
    have y2_5 := HO.out.frz 2 rfl 5
    have z2_5 : x5.cell? _ = some (.slice a1 m c1) := HO.out.cell 2 rfl 5 rfl
    obtain ⟨x61, hx61, hO⟩ := HO.out.setE 2 rfl 5 (.slice va (m + 1) vc)
    replace HO := Hi (show Own _ _ _ [_, _, blkR bd (.cells #[.int .i64 id, .bool true, .int .i64 0, .string nm, .int .i64 1, .slice va (m + 1) vc] 86), _] from hO)
    clear hO
    go_wp2
    go_roundw
    case rel => exact ⟨k + 1, m + 1, va, vc, by omega, by go_num, by rw [HB2.out], HM9.out, HO.out⟩
    case measure => simp [intOf]; omega
  ·
   obtain rfl : k = n := by omega
   have hd4 : decide ((k : Int) < (k : Int)) = false := decide_eq_false (by omega)
   have HT := Hi (show l.take k = l by rw [← HN.out]; exact List.take_length)
   rw [HT.out] at HO HM ⊢
   clear HT
   cases hzb : zaB nm l with
   | false =>
    have HAN := Hi (ansM_no (all := all) (id := id) hzb)
    rw [HAN.out] at HD HOUT
    have y2_5 := HO.out.frz 2 rfl 5
    have z2_5 : wr.cell? _ = some (.slice a1 m c1) := HO.out.cell 2 rfl 5 rfl
    obtain ⟨x301, hx301, hO⟩ := HO.out.setE 2 rfl 5 (.slice none 0 0)
    replace HO := Hi (show Own _ _ _ [_, _, blkR bd (.cells #[.int .i64 id, .bool true, .int .i64 0, .string nm, .int .i64 1, .slice none 0 0] 86), rowR (.slice a1 m c1) 49 5 m ((zaF nm all l).flatMap cRc)] from hO)
    clear hO
    have y2_2 := HO.out.frz 2 rfl 2
    have z2_2 : x301.cell? _ = some (.int .i64 0) := HO.out.cell 2 rfl 2 rfl
    obtain ⟨x302, hx302, hO⟩ := HO.out.setE 2 rfl 2 (.int .i64 1)
    replace HO := Hi (show Own _ _ _ [_, _, blkR bd (.cells #[.int .i64 id, .bool true, .int .i64 1, .string nm, .int .i64 1, .slice none 0 0] 86), _] from hO)
    clear hO
    obtain ⟨z2_0, z2_1, z2_2t, z2_3, z2_4, z2_5t⟩ := HO.out.c6 2 rfl
    have z0_1 : x302.cell? _ = some (.int .i64 pt) := HO.out.cell 0 rfl 1 rfl
    have hO := HO.out.rowNew 49 5
    replace HO := Hi (show Own _ _ _ [_, _, _, _, rowR (.slice none 0 0) 49 5 0 []] from hO)
    clear hO
    go_wp2_with fail
    refine (o_still HO.out (datagram_r (rs := []) _ (HO.out.row 4 rfl) rfl HD.out HOUT.out)).mono ?_
    rintro e x303 ⟨rfl, hO, -⟩
    replace HO := Hi hO
    clear hO
    clear y2_5 z2_5 hx301 y2_2 z2_2 hx302 z2_0 z2_1 z2_2t z2_3 z2_4 z2_5t z0_1
    obtain ⟨x307, x310, x312, hx307, hx310, hx312, k1_0_304, lk1_0_304, k1_1_308, lk1_1_308, k1_2_311, lk1_2_311, hO⟩ := HO.out.steps3 1 rfl (.int .i64 53) (.int .i64 pt) (.string out)
    replace HO := Hi (show Own _ _ _ [_, blkR br (.cells #[.int .i64 53, .int .i64 pt, .string out] 56), _, _, _] from hO)
    clear hO
    obtain ⟨r0, r1, r2⟩ := HO.out.c3 1 rfl
    go_wp2
    exact bodyPost_ret (v := .agg #[.int .i64 53, .int .i64 pt, .string out]) (by simp [results, Tryz.results25, go_sem, r0, r1, r2]) rfl ⟨rfl, HO.out.below⟩
   | true =>
    have HAN := Hi (ansM_yes (all := all) (id := id) hzb)
    rw [HAN.out] at HD HOUT
    have z2_0 : wr.cell? _ = some (.int .i64 id) := HO.out.cell 2 rfl 0 rfl
    have z2_1 : wr.cell? _ = some (.bool true) := HO.out.cell 2 rfl 1 rfl
    have z2_2 : wr.cell? _ = some (.int .i64 0) := HO.out.cell 2 rfl 2 rfl
    have z2_3 : wr.cell? _ = some (.string nm) := HO.out.cell 2 rfl 3 rfl
    have z2_4 : wr.cell? _ = some (.int .i64 1) := HO.out.cell 2 rfl 4 rfl
    have z2_5 : wr.cell? _ = some (.slice a1 m c1) := HO.out.cell 2 rfl 5 rfl
    have z0_1 : wr.cell? _ = some (.int .i64 pt) := HO.out.cell 0 rfl 1 rfl
    go_wp2_with fail
    refine (o_still HO.out (datagram_r (rs := zaF nm all l) _ (HO.out.row 3 rfl) HM.out HD.out HOUT.out)).mono ?_
    rintro e x301 ⟨rfl, hO, -⟩
    replace HO := Hi (show Own _ _ _ [_, blkR br (.cells #[.int .i64 0, .int .i64 0, .string ⟨#[]⟩] 56), blkR bd (.cells #[.int .i64 id, .bool true, .int .i64 0, .string nm, .int .i64 1, .slice a1 m c1] 86), _] from hO)
    clear hO
    clear z2_0 z2_1 z2_2 z2_3 z2_4 z2_5 z0_1
    obtain ⟨x305, x308, x310, hx305, hx308, hx310, k1_0_302, lk1_0_302, k1_1_306, lk1_1_306, k1_2_309, lk1_2_309, hO⟩ := HO.out.steps3 1 rfl (.int .i64 53) (.int .i64 pt) (.string out)
    replace HO := Hi (show Own _ _ _ [_, blkR br (.cells #[.int .i64 53, .int .i64 pt, .string out] 56), _, _] from hO)
    clear hO
    obtain ⟨r0, r1, r2⟩ := HO.out.c3 1 rfl
    go_wp2
    exact bodyPost_ret (v := .agg #[.int .i64 53, .int .i64 pt, .string out]) (by simp [results, Tryz.results25, go_sem, r0, r1, r2]) rfl ⟨rfl, HO.out.below⟩
end Go.Proofs.YtbolfkojebbejaaGreatDoor
