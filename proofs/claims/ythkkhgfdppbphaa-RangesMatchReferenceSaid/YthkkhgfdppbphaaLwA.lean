/- Contracts of the law's own helpers: pick, Span, Spans, has, sane. -/
import Derived.Test.YthkkhgfdppbphaaReg3
import Derived.Test.YthkkhgfdppbphaaRfE
import Derived.Test.YthkkhgfdppbphaaSam
import Derived.Test.YthkkhgfdppbphaaRem
import Derived.Test.YthkkhgfdppbphaaCon
import Derived.Test.YthkkhgfdppbphaaCnt
namespace Go.Proofs.Ythkkhgfdppbphaa
open Go.RowKit Go.Sort Go.Shelf
set_option linter.unusedVariables false

def pk (c n : Int) : Int := (if c < 0 then -(c + 1) else c) % n
theorem pk_bd (c n : Int) (h : 0 < n) : 0 ≤ pk c n ∧ pk c n < n := by
  unfold pk; exact ⟨Int.emod_nonneg _ (by omega), Int.emod_lt_of_pos _ h⟩

theorem pick_any (c n : Int) (w : World) (hc : -9223372036854775808 ≤ c ∧ c ≤ 9223372036854775807) (hn : 0 < n) :
    Calls Try.prog 28 #[.int .i64 c, .int .i64 n] w fun e w' => e = .returned (.int .i64 (pk c n)) ∧ Below w.heap.size w w' := by
  obtain ⟨hc1, hc2⟩ := hc
  have hz : (n == 0) = false := by simp; omega
  by_cases h : c < 0
  · have HP := Lib.hid (show pk c n = (-(c + 1)) % n by simp [pk, h])
    go_enter Try.func28, Try.ntmps28
    go_wp2
    all_goals go_ret
    all_goals exact ⟨ret_i64 (by rw [HP.out, ← Int.neg_tmod, Int.tmod_eq_emod_of_nonneg (by omega)]), Below.refl _ _⟩
  · have HP := Lib.hid (show pk c n = c % n by simp [pk, h])
    go_enter Try.func28, Try.ntmps28
    go_wp2
    all_goals go_ret
    all_goals exact ⟨ret_i64 (by rw [HP.out]), Below.refl _ _⟩

def i64S (x : Sp) : Prop := (-9223372036854775808 ≤ x.fr ∧ x.fr ≤ 9223372036854775807) ∧ (-9223372036854775808 ≤ x.to ∧ x.to ≤ 9223372036854775807)
def spanF (x : Sp) : Sp := ⟨pk x.fr 60, pk x.fr 60 + 1 + pk x.to 12⟩
def Sok (s : Sp) : Prop := 0 ≤ s.fr ∧ s.fr < s.to ∧ s.to ≤ 72
theorem spanF_ok (x : Sp) : Sok (spanF x) := by
  have h1 := pk_bd x.fr 60 (by decide)
  have h2 := pk_bd x.to 12 (by decide)
  simp only [Sok, spanF]; omega

theorem two_boxes (w : World) (x y z u : Int) (t t' : TypeId) : ((w.alloc (.cells #[.int .i64 x, .int .i64 y] t)).alloc (.cells #[.int .i64 z, .int .i64 u] t')).cell? ⟨w.heap.size, 0, none⟩ = some (.int .i64 x) ∧
    ((w.alloc (.cells #[.int .i64 x, .int .i64 y] t)).alloc (.cells #[.int .i64 z, .int .i64 u] t')).cell? ⟨w.heap.size, 1, none⟩ = some (.int .i64 y) ∧
    ((w.alloc (.cells #[.int .i64 x, .int .i64 y] t)).alloc (.cells #[.int .i64 z, .int .i64 u] t')).cell? ⟨w.heap.size + 1, 0, none⟩ = some (.int .i64 z) ∧
    ((w.alloc (.cells #[.int .i64 x, .int .i64 y] t)).alloc (.cells #[.int .i64 z, .int .i64 u] t')).cell? ⟨w.heap.size + 1, 1, none⟩ = some (.int .i64 u) ∧
    ((w.alloc (.cells #[.int .i64 x, .int .i64 y] t)).alloc (.cells #[.int .i64 z, .int .i64 u] t')).frozen? ⟨w.heap.size + 1, 0, none⟩ = false ∧
    ((w.alloc (.cells #[.int .i64 x, .int .i64 y] t)).alloc (.cells #[.int .i64 z, .int .i64 u] t')).frozen? ⟨w.heap.size + 1, 1, none⟩ = false := by
  have h := (Below.refl (w.heap.size + 1) (w.alloc (.cells #[.int .i64 x, .int .i64 y] t))).alloc (by simp) (.cells #[.int .i64 z, .int .i64 u] t')
  refine ⟨?_, ?_, ?_, ?_, ?_, ?_⟩
  · rw [h.cell (by simp)]; simp
  · rw [h.cell (by simp)]; simp
  · simp
  · simp
  · simp [go_sem]
  · simp [go_sem]

theorem span_any (x : Sp) (w : World) (hx : i64S x) :
    Calls Try.prog 12 #[spV x] w fun e w' => e = .returned (spV (spanF x)) ∧ Below w.heap.size w w' := by
  obtain ⟨x0, x1⟩ := x
  obtain ⟨h0, h1⟩ := hx
  simp only at h0 h1
  have P0 := Lib.hid (fun w => pick_any x0 60 w h0 (by decide))
  have P1 := Lib.hid (fun w => pick_any x1 12 w h1 (by decide))
  have q0 := pk_bd x0 60 (by decide)
  have q1 := pk_bd x1 12 (by decide)
  have HR := Lib.hid (show spanF ⟨x0, x1⟩ = ⟨pk x0 60, pk x0 60 + 1 + pk x1 12⟩ from rfl)
  generalize pk x0 60 = y0 at *
  generalize pk x1 12 = y1 at *
  have b0 : Below w.heap.size w ((w.alloc (.cells #[.int .i64 x0, .int .i64 x1] 26)).alloc (.cells #[.int .i64 0, .int .i64 0] 24)) := ((Below.refl _ _).alloc (Nat.le_refl _) _).alloc (by simp) _
  obtain ⟨c0, c1, c2, c3, c4, c5⟩ := two_boxes w x0 x1 0 0 26 24
  have C0 := Lib.hid c0
  have C1 := Lib.hid c1
  have C2 := Lib.hid c2
  have C3 := Lib.hid c3
  have C4 := Lib.hid c4
  have C5 := Lib.hid c5
  clear c0 c1 c2 c3 c4 c5
  go_enter Try.func12, Try.ntmps12
  go_wp2_with fail
  refine (P0.out _).mono ?_
  rintro e w1 ⟨rfl, hb⟩
  have B0 := Lib.hid (below_mid b0 hb)
  have c1 := keep hb C1.out
  have c2 := keep hb C2.out
  have c3 := keep hb C3.out
  have c4 := frz hb C2.out C4.out
  have c5 := frz hb C3.out C5.out
  clear C0 C1 C2 C3 C4 C5 b0 hb P0
  go_wp2_with fail
  refine (P1.out _).mono ?_
  rintro e w2 ⟨rfl, hb⟩
  have B1 := Lib.hid (below_mid B0.out hb)
  have d2 := keep hb c2
  have d3 := keep hb c3
  have d4 := frz hb c2 c4
  have d5 := frz hb c3 c5
  clear c1 c2 c3 c4 c5 B0 hb P1
  go_wp2
  have e0 := (set_cell2 (w2.setCell ⟨w.heap.size + 1, 0, none⟩ (.int .i64 y0)) (w.heap.size + 1) 1 0 (.int .i64 (y0 + 1 + y1)) (by decide)).trans (set_get1 (v := .int .i64 y0) d2)
  have e1 := set_get1 (v := .int .i64 (y0 + 1 + y1)) ((set_cell2 w2 (w.heap.size + 1) 0 1 (.int .i64 y0) (by decide)).trans d3)
  refine bodyPost_ret (v := spV ⟨y0, y0 + 1 + y1⟩) (by simp [results, Try.results12, go_sem, e0, e1]) rfl ⟨by rw [HR.out], ?_⟩
  exact (B1.out.setCell (by simp) _).setCell (by simp) _
theorem span_r {x y : Sp} (h : spanF x = y) (w : World) (hx : i64S x) :
    Calls Try.prog 12 #[spV x] w fun e w' => e = .returned (spV y) ∧ Below w.heap.size w w' := h ▸ span_any x w hx

/-- Lists of spans below 72. -/
def Inv (l : List Sp) : Prop := canF (-1) l = true ∧ ∀ n, mem l n → n < 72
theorem Sok.okS {s : Sp} (h : Sok s) : okS (-1) s = true := okS_iff.2 ⟨h.1, by have := h.1; omega, h.2.1, by have := h.2.2; omega⟩
theorem Inv.tak {l : List Sp} {s : Sp} (h : Inv l) (hs : Sok s) : takB l s = true := by simp [takB, h.1, hs.okS]
theorem Inv.addF {l : List Sp} {s : Sp} (h : Inv l) (hs : Sok s) : addF l s = addL l s := by simp [Proofs.Ythkkhgfdppbphaa.addF, h.tak hs]
theorem Inv.remF {l : List Sp} {s : Sp} (h : Inv l) (hs : Sok s) : remF l s = remL l s := by simp [Proofs.Ythkkhgfdppbphaa.remF, h.tak hs]
theorem Inv.gapF {l : List Sp} {s : Sp} (h : Inv l) (hs : Sok s) : gapF l s = gapL s s.fr l := by simp [Proofs.Ythkkhgfdppbphaa.gapF, h.tak hs]
theorem Inv.conF {l : List Sp} {s : Sp} (h : Inv l) (hs : Sok s) : conF l s = conL l s := by simp [Proofs.Ythkkhgfdppbphaa.conF, h.tak hs]
theorem Inv.cntF {l : List Sp} (h : Inv l) : cntF l = cntL l := by simp [Proofs.Ythkkhgfdppbphaa.cntF, h.1]
theorem Inv.nil : Inv [] := ⟨rfl, fun n h => absurd h (mem_nil n)⟩
theorem Inv.add_mem {l : List Sp} {s : Sp} (h : Inv l) (hs : Sok s) (n : Int) : mem (Proofs.Ythkkhgfdppbphaa.addF l s) n ↔ mem l n ∨ isIn s n := by
  rw [h.addF hs]; exact addL_mem h.1 hs.2.1 n
theorem Inv.rem_mem {l : List Sp} {s : Sp} (h : Inv l) (hs : Sok s) (n : Int) : mem (Proofs.Ythkkhgfdppbphaa.remF l s) n ↔ mem l n ∧ ¬ isIn s n := by
  rw [h.remF hs]; exact remL_mem h.1 hs.2.1 n
theorem Inv.gap_mem {l : List Sp} {s : Sp} (h : Inv l) (hs : Sok s) (n : Int) : mem (Proofs.Ythkkhgfdppbphaa.gapF l s) n ↔ isIn s n ∧ ¬ mem l n := by
  rw [h.gapF hs]; exact gapL_mem h.1 n
theorem Inv.add {l : List Sp} {s : Sp} (h : Inv l) (hs : Sok s) : Inv (Proofs.Ythkkhgfdppbphaa.addF l s) := by
  refine ⟨by rw [h.addF hs]; exact addL_can h.1 hs.okS, fun n hn => ?_⟩
  rcases (h.add_mem hs n).1 hn with h1 | h1
  · exact h.2 n h1
  · have := h1.2; have := hs.2.2; omega
theorem Inv.rem {l : List Sp} {s : Sp} (h : Inv l) (hs : Sok s) : Inv (Proofs.Ythkkhgfdppbphaa.remF l s) :=
  ⟨by rw [h.remF hs]; exact remL_can h.1 hs.2.1, fun n hn => h.2 n ((h.rem_mem hs n).1 hn).1⟩
theorem Inv.gap {l : List Sp} {s : Sp} (h : Inv l) (hs : Sok s) : Inv (Proofs.Ythkkhgfdppbphaa.gapF l s) := by
  refine ⟨by rw [h.gapF hs]; exact gapL_can h.1 (by have := hs.1; omega) hs.1 (by have := hs.2.2; omega), fun n hn => ?_⟩
  have := ((h.gap_mem hs n).1 hn).1.2
  have := hs.2.2
  omega
theorem Inv.sok {l : List Sp} (h : Inv l) {x : Sp} (hx : x ∈ l) : Sok x := by
  obtain ⟨h1, h2, h3, h4⟩ := can_all h.1 x hx
  have := h.2 (x.to - 1) ⟨x, hx, by unfold isIn; omega⟩
  exact ⟨h1, h3, by omega⟩
theorem can_len : ∀ {l : List Sp} {e M : Int}, canF e l = true → e ≤ M → (∀ x ∈ l, x.to ≤ M) → (l.length : Int) ≤ M - e
  | [], e, M, _, he, _ => by simp; omega
  | x :: l, e, M, h, he, hM => by
    rw [canF_cons, okS_iff] at h
    have h1 := hM x (List.mem_cons_self ..)
    have := can_len h.2 h1 (fun y hy => hM y (List.mem_cons_of_mem _ hy))
    simp only [List.length_cons]; omega
theorem Inv.len {l : List Sp} (h : Inv l) : l.length ≤ 73 := by
  have := can_len (M := 72) h.1 (by decide) (fun x hx => (h.sok hx).2.2)
  omega
theorem Inv.ext {l r : List Sp} (h : Inv l) (h' : Inv r) (e : ∀ n, mem l n ↔ mem r n) : l = r := can_ext h.1 h'.1 e

def spansF (f : Nat → Sp) : Nat → List Sp
  | 0 => []
  | k + 1 => if k % 3 = 2 then Proofs.Ythkkhgfdppbphaa.remF (spansF f k) (spanF (f k)) else Proofs.Ythkkhgfdppbphaa.addF (spansF f k) (spanF (f k))
theorem spans_inv (f : Nat → Sp) : ∀ k, Inv (spansF f k)
  | 0 => Inv.nil
  | k + 1 => by
    unfold spansF
    split
    · exact (spans_inv f k).rem (spanF_ok _)
    · exact (spans_inv f k).add (spanF_ok _)

/-- A slice of pairs of any length. -/
def RdX (w : World) (v : Value) (n : Nat) (f : Nat → Sp) : Prop :=
  ∃ a cap, v = .slice a n cap ∧ n ≤ cap ∧ n ≤ 9223372036854775807 ∧ (∀ i, i < n → i64S (f i)) ∧ (n ≠ 0 → ∃ b o, a = some ⟨b, o, none⟩ ∧ ∀ i, i < n → SpCells w b (o + i * 2) (f i))
theorem RdX.stay {w w' : World} {v : Value} {n : Nat} {f : Nat → Sp} (hb : Below w.heap.size w w') (h : RdX w v n f) : RdX w' v n f := by
  obtain ⟨a, cap, rfl, h1, h2, h3, h4⟩ := h
  refine ⟨a, cap, rfl, h1, h2, h3, fun hn => ?_⟩
  obtain ⟨b, o, rfl, hc⟩ := h4 hn
  exact ⟨b, o, rfl, fun i hi => (hc i hi).stay hb⟩

set_option maxHeartbeats 2000000 in
theorem spans_any (n : Nat) (f : Nat → Sp) (v : Value) (w : World) (h : RdX w v n f) :
    Calls Try.prog 11 #[v] w (ListPost w (spansF f (min n 10))) := by
  obtain ⟨a, cap, rfl, hcap, hlen, hi, hp⟩ := h
  have HP := Lib.hid hp
  have HI := Lib.hid hi
  clear hp hi
  have HN := Lib.hid (spans_inv f)
  have H0 := Lib.hid (show spansF f 0 = [] from rfl)
  have HS := Lib.hid (show ∀ k, spansF f (k + 1) = if k % 3 = 2 then Proofs.Ythkkhgfdppbphaa.remF (spansF f k) (spanF (f k)) else Proofs.Ythkkhgfdppbphaa.addF (spansF f k) (spanF (f k)) from fun k => rfl)
  go_enter Try.func11, Try.ntmps11
  go_wp2
  go_loopw [3, 4] (fun out i wr => ∃ k : Nat, k ≤ n ∧ k ≤ 10 ∧ i = .int .i64 k ∧ RdS wr out (spansF f k) ∧ Below w.heap.size w wr) (fun _ i _ => 10 - (intOf i).toNat)
  case atStart => exact ⟨0, Nat.zero_le _, Nat.zero_le _, rfl, by rw [H0.out]; exact RdS_nil _, Below.refl _ _⟩
  case round =>
    obtain ⟨k, hk, hk10, rfl, hro, hb⟩ := hrel
    have hil := (HN.out k).len
    by_cases hlt : k < n
    · by_cases hlt2 : k < 10
      · obtain ⟨b, o, rfl, hcc⟩ := HP.out (by omega)
        obtain ⟨x0, x1⟩ := (hcc k hlt).stay hb
        have HX := Lib.hid (HI.out k hlt)
        have hkc : k ≤ cap := by omega
        have HSk := Lib.hid (HS.out k)
        clear hcc
        by_cases hm : k % 3 = 2
        · have HE := Lib.hid (show spansF f (k + 1) = Proofs.Ythkkhgfdppbphaa.remF (spansF f k) (spanF (f k)) by rw [HSk.out, if_pos hm])
          have hm2 : ((k : Int) % 3 == 2) = true := by simp; omega
          clear HSk
          generalize f k = x at *
          obtain ⟨xf, xt⟩ := x
          simp only at x0 x1
          generalize spansF f k = gk at *
          go_wp2_with fail
          refine (span_any ⟨xf, xt⟩ _ HX.out).mono ?_
          rintro e w3 ⟨rfl, hb3⟩
          replace hro := hro.stay hb3
          replace hb := below_mid hb hb3
          clear hb3
          go_wp2_with fail
          refine (rremove_any gk _ _ _ hro (by omega)).mono ?_
          rintro e w4 ⟨v4, rfl, hr4, hb4⟩
          replace hb := below_mid hb hb4
          clear hro hb4
          go_wp2
          go_roundw
          case rel => exact ⟨k + 1, by omega, by omega, by go_num, by rw [HE.out]; exact hr4, hb⟩
          case measure => simp [intOf]; omega
        · have HE := Lib.hid (show spansF f (k + 1) = Proofs.Ythkkhgfdppbphaa.addF (spansF f k) (spanF (f k)) by rw [HSk.out, if_neg hm])
          have hm2 : ((k : Int) % 3 == 2) = false := by simp; omega
          clear HSk
          generalize f k = x at *
          obtain ⟨xf, xt⟩ := x
          simp only at x0 x1
          generalize spansF f k = gk at *
          go_wp2_with fail
          refine (span_any ⟨xf, xt⟩ _ HX.out).mono ?_
          rintro e w3 ⟨rfl, hb3⟩
          replace hro := hro.stay hb3
          replace hb := below_mid hb hb3
          clear hb3
          go_wp2_with fail
          refine (radd_any gk _ _ _ hro (by omega)).mono ?_
          rintro e w4 ⟨v4, rfl, hr4, hb4⟩
          replace hb := below_mid hb hb4
          clear hro hb4
          go_wp2
          go_roundw
          case rel => exact ⟨k + 1, by omega, by omega, by go_num, by rw [HE.out]; exact hr4, hb⟩
          case measure => simp [intOf]; omega
      · have HM := Lib.hid (show min n 10 = k by omega)
        have HW := Lib.hid hro
        clear hro
        go_wp2
        go_ret
        exact ⟨_, rfl, by rw [HM.out]; exact HW.out, hb⟩
    · have HM := Lib.hid (show min n 10 = k by omega)
      have HW := Lib.hid hro
      clear hro
      go_wp2
      go_ret
      exact ⟨_, rfl, by rw [HM.out]; exact HW.out, hb⟩

def hasB (l : List Sp) (n : Int) : Bool := l.any fun x => decide (x.fr ≤ n) && decide (n < x.to)
theorem hasB_iff {l : List Sp} {n : Int} : hasB l n = true ↔ mem l n := by
  simp only [hasB, List.any_eq_true, Bool.and_eq_true, decide_eq_true_eq]; rfl
theorem has_take (l : List Sp) (n : Int) (k : Nat) (h : k < l.length) : hasB (l.take (k + 1)) n = (hasB (l.take k) n || (decide ((spAt l k).fr ≤ n) && decide (n < (spAt l k).to))) := by
  rw [List.take_succ_eq_append_getElem h, ← spAt_eq l k h]; simp [hasB]
theorem has_some (l : List Sp) (n : Int) (k : Nat) (h : k < l.length) (h1 : (spAt l k).fr ≤ n) (h2 : n < (spAt l k).to) : hasB l n = true :=
  hasB_iff.2 ⟨spAt l k, by rw [spAt_eq l k h]; exact List.getElem_mem _, h1, h2⟩

set_option maxHeartbeats 2000000 in
theorem has_any (l : List Sp) (n : Int) (v : Value) (w : World) (h : RdS w v l) :
    Calls Try.prog 27 #[v, .int .i64 n] w fun e w' => e = .returned (.bool (hasB l n)) ∧ Below w.heap.size w w' := by
  obtain ⟨a, cap, rfl, hcap, hlen, hp⟩ := h
  have HP := Lib.hid hp
  clear hp
  have HT := Lib.hid (has_take l n)
  have HS := Lib.hid (has_some l n)
  go_enter Try.func27, Try.ntmps27
  go_wp2
  go_loopw [5] (fun i wr => ∃ k : Nat, k ≤ l.length ∧ i = .int .i64 k ∧ hasB (l.take k) n = false ∧ Below w.heap.size w wr) (fun i _ => l.length - (intOf i).toNat)
  case atStart => exact ⟨0, Nat.zero_le _, rfl, by simp [hasB], Below.refl _ _⟩
  case round =>
    obtain ⟨k, hk, rfl, hno, hb⟩ := hrel
    by_cases hlt : k < l.length
    · obtain ⟨b, o, rfl, hcc⟩ := HP.out (by omega)
      obtain ⟨x0, x1⟩ := (hcc k hlt).stay hb
      have hkc : k ≤ cap := by omega
      have HTk := Lib.hid (HT.out k hlt)
      have HSk := Lib.hid (HS.out k hlt)
      clear hcc HT HS
      generalize spAt l k = x at *
      obtain ⟨xf, xt⟩ := x
      simp only at x0 x1 HSk HTk
      have HNO := Lib.hid hno
      clear hno
      by_cases h1 : xf ≤ n
      · by_cases h2 : n < xt
        · have HE := Lib.hid (HSk.out h1 h2)
          go_wp2
          go_ret
          exact ⟨by rw [HE.out]; rfl, hb⟩
        · have HE := Lib.hid (show hasB (l.take (k + 1)) n = false by rw [HTk.out, HNO.out]; simp; omega)
          go_wp2
          go_roundw
          case rel => exact ⟨k + 1, by omega, by go_num, HE.out, hb⟩
          case measure => simp [intOf]; omega
      · have HE := Lib.hid (show hasB (l.take (k + 1)) n = false by rw [HTk.out, HNO.out]; simp; omega)
        go_wp2
        go_roundw
        case rel => exact ⟨k + 1, by omega, by go_num, HE.out, hb⟩
        case measure => simp [intOf]; omega
    · have HE := Lib.hid (show hasB l n = false by rw [← hno, List.take_of_length_le (by omega)])
      clear hno
      go_wp2
      go_ret
      exact ⟨by rw [HE.out]; rfl, hb⟩

end Go.Proofs.Ythkkhgfdppbphaa
