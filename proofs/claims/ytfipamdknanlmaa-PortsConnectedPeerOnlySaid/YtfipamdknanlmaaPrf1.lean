/- The reference of chapter 23: its Ports in memory, and the contracts of what only looks. -/
import Derived.Test.YtfipamdknanlmaaPown
namespace Go.Proofs.Ytfipamdknanlmaa
open Go.RowKit Go.Sort
set_option linter.unusedVariables false

def cBd (x : Bk × Int) : List Value := [.int .i64 x.1.pr, .int .i64 x.1.po, .int .i64 x.2]
def cJd (x : Ck × Int) : List Value := [.int .i64 x.2, .int .i64 x.1.po, .int .i64 x.1.th, .int .i64 x.1.tp]
abbrev rowB (v : Value) (B : List (Bk × Int)) : Res := rowR v 80 3 B.length (B.flatMap cBd)
abbrev rowJ (v : Value) (J : List (Ck × Int)) : Res := rowR v 78 4 J.length (J.flatMap cJd)
abbrev blkQ (q : Nat) (vB vJ : Value) (sd gv : Int) : Res := blkR q (.cells #[vB, vJ, .int .i64 sd, .int .i64 gv] 71)
/-- A reference Ports at q that holds st. -/
def resQ (q : Nat) (st : PSt) : Res := exR fun vs : Value × Value => sepR [blkQ q vs.1 vs.2 st.seed st.given, rowB vs.1 st.B, rowJ vs.2 st.J]

variable {w0 w : World} {D : Nat → Prop} {L : List Res} {q : Nat} {st : PSt}
theorem openQ (h : Own w0 D w [resQ q st]) : ∃ vB vJ, Own w0 D w [blkQ q vB vJ st.seed st.given, rowB vB st.B, rowJ vJ st.J] := by
  obtain ⟨⟨vB, vJ⟩, h⟩ := h.openEx
  exact ⟨vB, vJ, h.open⟩
theorem shutQ {vB vJ : Value} (h : Own w0 D w [blkQ q vB vJ st.seed st.given, rowB vB st.B, rowJ vJ st.J]) : Own w0 D w [resQ q st] := Own.shutEx (f := fun vs : Value × Value => sepR [blkQ q vs.1 vs.2 st.seed st.given, rowB vs.1 st.B, rowJ vs.2 st.J]) (vB, vJ) h.shut

/-- A row of n elements as the walk sees it: a slice, and its cells. -/
theorem row_at {E sz n : Nat} {v : Value} {α : Type} {c : α → List Value} {l : List α} (hc : ∀ x, (c x).length = sz) (h : w.ownsRow 0 E sz v n (l.flatMap c)) (hl : l.length = n) :
    ∃ a cap, v = .slice a n cap ∧ (0 < n → ∃ g, a = some ⟨g, 0, none⟩ ∧ ∀ (k : Nat) (hk : k < l.length) (j : Nat), j < sz → w.cell? ⟨g, k * sz + j, none⟩ = (c l[k])[j]?) := by
  rcases h.2 with ⟨e, hn⟩ | ⟨g, cp, cur, e, _, hh, hcp, _, hs, htk⟩
  · exact ⟨none, 0, by rw [e, hn], fun h => by omega⟩
  · refine ⟨_, cp, e, fun _ => ⟨g, rfl, fun k hk j hj => ?_⟩⟩
    rw [← flat_get c sz hc l k hk j hj, ← htk, List.getElem?_take, if_pos ?_]
    · simp [World.cell?, hh]
    · rw [hl] at hk
      have := Nat.mul_le_mul_right sz (show k + 1 ≤ n by omega)
      rw [Nat.add_mul, Nat.one_mul] at this
      omega
theorem any_take {α : Type} {p : α → Bool} {l : List α} {k : Nat} (hk : k < l.length) (h : (l.take k).any p = false) : (l.take (k + 1)).any p = p l[k] := by
  rw [List.take_succ_eq_append_getElem hk, List.any_append, h]; simp
theorem any_hit {α : Type} {p : α → Bool} {l : List α} {k : Nat} (hk : k < l.length) (h : p l[k] = true) : l.any p = true := List.any_eq_true.2 ⟨l[k], List.getElem_mem hk, h⟩

def joinedF (st : PSt) (po : Int) : Bool := st.J.any fun x => x.1.po == po
def aloneF (st : PSt) (s : Int) : Bool := !(st.J.any fun x => x.2 == s)
def boundF (st : PSt) (pr po s : Int) : Bool := st.B.any fun x => (x.1.pr == pr && x.1.po == po) || x.2 == s

def RdQ (w : World) (q : Nat) (st : PSt) : Prop := ∃ vB vJ, w.heap[q]? = some (.cells #[vB, vJ, .int .i64 st.seed, .int .i64 st.given] 71) ∧ w.ownsRow 0 80 3 vB st.B.length (st.B.flatMap cBd) ∧ w.ownsRow 0 78 4 vJ st.J.length (st.J.flatMap cJd)
theorem resQ_rd {F : Nat → Prop} (h : (resQ q st).P w F) : RdQ w q st := by
  obtain ⟨⟨vB, vJ⟩, Fs, h1, _⟩ := h
  exact ⟨vB, vJ, (h1 0 _ rfl).2, (h1 1 _ rfl).2, (h1 2 _ rfl).2⟩

set_option maxHeartbeats 1000000 in
theorem joined_any (x0 : Int) (h : RdQ w q st) (hl : st.J.length ≤ 1000000) :
    Calls Try.prog 45 #[.pointer (some ⟨q, 0, none⟩), .int .i64 x0] w fun e w' => e = .returned (.bool (joinedF st x0)) ∧ w = w' := by
  obtain ⟨vB, vJ, hq, _, hJ⟩ := h
  obtain ⟨a, cap, rfl, hcell⟩ := row_at (c := cJd) (fun x => rfl) hJ rfl
  have c1 : w.cell? ⟨q, 1, none⟩ = some (.slice a st.J.length cap) := blk_cell hq 1
  obtain ⟨J, hJe⟩ : ∃ J, st.J = J := ⟨_, rfl⟩
  have HF := Lib.hid (show joinedF st x0 = (J.any (fun x => x.1.po == x0)) by rw [← hJe]; rfl)
  rw [hJe] at hcell hl c1
  have HC := Lib.hid hcell
  clear hcell hq hJ hJe
  go_enter Try.func45, Try.ntmps45
  go_wp2
  go_loop [5] (fun i => ∃ k : Nat, k ≤ J.length ∧ i = .int .i64 k ∧ (J.take k).any (fun x => x.1.po == x0) = false) (fun i => J.length - (intOf i).toNat)
  case atStart => exact ⟨0, Nat.zero_le _, rfl, rfl⟩
  case round =>
    obtain ⟨k, hk, rfl, hnone⟩ := hrel
    have HN := Lib.hid hnone
    clear hnone
    by_cases hlt : k < J.length
    · obtain ⟨g, rfl, hcc⟩ := HC.out (by omega)
      have d1 : w.cell? ⟨g, k * 4 + 1, none⟩ = some (.int .i64 J[k].1.po) := hcc k hlt 1 (by decide)
      have HT := Lib.hid (any_take (p := fun x : Ck × Int => x.1.po == x0) hlt HN.out)
      have HY := Lib.hid (any_hit (p := fun x : Ck × Int => x.1.po == x0) (k := k) hlt)
      obtain ⟨y, hy⟩ : ∃ y, J[k].1.po = y := ⟨_, rfl⟩
      simp only [hy] at HT HY d1
      clear hcc hy
      cases he : (y == x0) with
      | true =>
        have HR := Lib.hid (HY.out he)
        go_wp2
        go_ret
        exact ⟨by rw [HF.out, HR.out]; rfl, rfl⟩
      | false =>
        rw [he] at HT
        go_wp2
        go_round
        case rel => exact ⟨k + 1, by omega, by go_num, HT.out⟩
        case measure => simp [intOf]; omega
    · obtain rfl : k = J.length := by omega
      have HZ := Lib.hid (show J.any (fun x => x.1.po == x0) = false by rw [← HN.out, List.take_length])
      clear HN
      go_wp2
      go_ret
      exact ⟨by rw [HF.out, HZ.out]; rfl, rfl⟩

set_option maxHeartbeats 1000000 in
theorem alone_any (x0 : Int) (h : RdQ w q st) (hl : st.J.length ≤ 1000000) :
    Calls Try.prog 29 #[.pointer (some ⟨q, 0, none⟩), .int .i64 x0] w fun e w' => e = .returned (.bool (aloneF st x0)) ∧ w = w' := by
  obtain ⟨vB, vJ, hq, _, hJ⟩ := h
  obtain ⟨a, cap, rfl, hcell⟩ := row_at (c := cJd) (fun x => rfl) hJ rfl
  have c1 : w.cell? ⟨q, 1, none⟩ = some (.slice a st.J.length cap) := blk_cell hq 1
  obtain ⟨J, hJe⟩ : ∃ J, st.J = J := ⟨_, rfl⟩
  have HF := Lib.hid (show aloneF st x0 = !(J.any (fun x => x.2 == x0)) by rw [← hJe]; rfl)
  rw [hJe] at hcell hl c1
  have HC := Lib.hid hcell
  clear hcell hq hJ hJe
  go_enter Try.func29, Try.ntmps29
  go_wp2
  go_loop [5] (fun i => ∃ k : Nat, k ≤ J.length ∧ i = .int .i64 k ∧ (J.take k).any (fun x => x.2 == x0) = false) (fun i => J.length - (intOf i).toNat)
  case atStart => exact ⟨0, Nat.zero_le _, rfl, rfl⟩
  case round =>
    obtain ⟨k, hk, rfl, hnone⟩ := hrel
    have HN := Lib.hid hnone
    clear hnone
    by_cases hlt : k < J.length
    · obtain ⟨g, rfl, hcc⟩ := HC.out (by omega)
      have d1 : w.cell? ⟨g, k * 4, none⟩ = some (.int .i64 J[k].2) := hcc k hlt 0 (by decide)
      have HT := Lib.hid (any_take (p := fun x : Ck × Int => x.2 == x0) hlt HN.out)
      have HY := Lib.hid (any_hit (p := fun x : Ck × Int => x.2 == x0) (k := k) hlt)
      obtain ⟨y, hy⟩ : ∃ y, J[k].2 = y := ⟨_, rfl⟩
      simp only [hy] at HT HY d1
      clear hcc hy
      cases he : (y == x0) with
      | true =>
        have HR := Lib.hid (HY.out he)
        go_wp2
        go_ret
        exact ⟨by rw [HF.out, HR.out]; rfl, rfl⟩
      | false =>
        rw [he] at HT
        go_wp2
        go_round
        case rel => exact ⟨k + 1, by omega, by go_num, HT.out⟩
        case measure => simp [intOf]; omega
    · obtain rfl : k = J.length := by omega
      have HZ := Lib.hid (show J.any (fun x => x.2 == x0) = false by rw [← HN.out, List.take_length])
      clear HN
      go_wp2
      go_ret
      exact ⟨by rw [HF.out, HZ.out]; rfl, rfl⟩

set_option maxHeartbeats 1000000 in
theorem rbound_any (pr po so : Int) (h : RdQ w q st) (hl : st.B.length ≤ 1000000) :
    Calls Try.prog 43 #[.pointer (some ⟨q, 0, none⟩), .int .i64 pr, .int .i64 po, .int .i64 so] w fun e w' => e = .returned (.bool (boundF st pr po so)) ∧ w = w' := by
  obtain ⟨vB, vJ, hq, hB, _⟩ := h
  obtain ⟨a, cap, rfl, hcell⟩ := row_at (c := cBd) (fun x => rfl) hB rfl
  have c1 : w.cell? ⟨q, 0, none⟩ = some (.slice a st.B.length cap) := blk_cell hq 0
  obtain ⟨B, hBe⟩ : ∃ B, st.B = B := ⟨_, rfl⟩
  have HF := Lib.hid (show boundF st pr po so = B.any (fun x => (x.1.pr == pr && x.1.po == po) || x.2 == so) by rw [← hBe]; rfl)
  rw [hBe] at hcell hl c1
  have HC := Lib.hid hcell
  clear hcell hq hB hBe
  go_enter Try.func43, Try.ntmps43
  go_wp2
  go_loop [9] (fun i => ∃ k : Nat, k ≤ B.length ∧ i = .int .i64 k ∧ (B.take k).any (fun x => (x.1.pr == pr && x.1.po == po) || x.2 == so) = false) (fun i => B.length - (intOf i).toNat)
  case atStart => exact ⟨0, Nat.zero_le _, rfl, rfl⟩
  case round =>
    obtain ⟨k, hk, rfl, hnone⟩ := hrel
    have HN := Lib.hid hnone
    clear hnone
    by_cases hlt : k < B.length
    · obtain ⟨g, rfl, hcc⟩ := HC.out (by omega)
      have d0 : w.cell? ⟨g, k * 3, none⟩ = some (.int .i64 B[k].1.pr) := hcc k hlt 0 (by decide)
      have d1 : w.cell? ⟨g, k * 3 + 1, none⟩ = some (.int .i64 B[k].1.po) := hcc k hlt 1 (by decide)
      have d2 : w.cell? ⟨g, k * 3 + 2, none⟩ = some (.int .i64 B[k].2) := hcc k hlt 2 (by decide)
      have HT := Lib.hid (any_take (p := fun x : Bk × Int => (x.1.pr == pr && x.1.po == po) || x.2 == so) hlt HN.out)
      have HY := Lib.hid (any_hit (p := fun x : Bk × Int => (x.1.pr == pr && x.1.po == po) || x.2 == so) (k := k) hlt)
      obtain ⟨y0, hy0⟩ : ∃ y, B[k].1.pr = y := ⟨_, rfl⟩
      obtain ⟨y1, hy1⟩ : ∃ y, B[k].1.po = y := ⟨_, rfl⟩
      obtain ⟨y2, hy2⟩ : ∃ y, B[k].2 = y := ⟨_, rfl⟩
      simp only [hy0, hy1, hy2] at HT HY d0 d1 d2
      clear hcc hy0 hy1 hy2
      cases h0 : (y0 == pr) with
      | true =>
        cases h1 : (y1 == po) with
        | true =>
          have HR := Lib.hid (HY.out (by rw [h0, h1]; rfl))
          go_wp2
          go_ret
          exact ⟨by rw [HF.out, HR.out]; rfl, rfl⟩
        | false =>
          cases h2 : (y2 == so) with
          | true =>
            have HR := Lib.hid (HY.out (by simp [h2]))
            go_wp2
            go_ret
            exact ⟨by rw [HF.out, HR.out]; rfl, rfl⟩
          | false =>
            have HT2 := Lib.hid (show (B.take (k + 1)).any (fun x => (x.1.pr == pr && x.1.po == po) || x.2 == so) = false by rw [HT.out]; simp [h1, h2])
            go_wp2
            go_round
            case rel => exact ⟨k + 1, by omega, by go_num, HT2.out⟩
            case measure => simp [intOf]; omega
      | false =>
        cases h2 : (y2 == so) with
        | true =>
          have HR := Lib.hid (HY.out (by simp [h2]))
          go_wp2
          go_ret
          exact ⟨by rw [HF.out, HR.out]; rfl, rfl⟩
        | false =>
          have HT2 := Lib.hid (show (B.take (k + 1)).any (fun x => (x.1.pr == pr && x.1.po == po) || x.2 == so) = false by rw [HT.out]; simp [h0, h2])
          go_wp2
          go_round
          case rel => exact ⟨k + 1, by omega, by go_num, HT2.out⟩
          case measure => simp [intOf]; omega
    · obtain rfl : k = B.length := by omega
      have HZ := Lib.hid (show B.any (fun x => (x.1.pr == pr && x.1.po == po) || x.2 == so) = false by rw [← HN.out, List.take_length])
      clear HN
      go_wp2
      go_ret
      exact ⟨by rw [HF.out, HZ.out]; rfl, rfl⟩

def rnd (n : Int) : Int := n % 64
theorem round_any (n : Int) (w : World) (hn : i64B n) : Calls Try.prog 44 #[.int .i64 n] w fun e w' => e = .returned (.int .i64 (n % 64)) ∧ w = w' := by
  obtain ⟨h1, h2⟩ := hn
  have t0 : -64 < n.tmod 64 ∧ n.tmod 64 < 64 := by
    rcases Int.le_total 0 n with h | h
    · rw [Int.tmod_eq_emod_of_nonneg h]; omega
    · have : n.tmod 64 = -((-n) % 64) := by rw [← Int.tmod_eq_emod_of_nonneg (show 0 ≤ -n by omega), Int.neg_tmod]; omega
      omega
  have t1 : (n.tmod 64 + 64) % 64 = n % 64 := by
    rcases Int.le_total 0 n with h | h
    · rw [Int.tmod_eq_emod_of_nonneg h]; omega
    · have : n.tmod 64 = -((-n) % 64) := by rw [← Int.tmod_eq_emod_of_nonneg (show 0 ≤ -n by omega), Int.neg_tmod]; omega
      omega
  obtain ⟨ta, tb⟩ := t0
  have HT := Lib.hid t1
  have HM := Lib.hid (show IntKind.i64.wrap (n.tmod 64) = n.tmod 64 from IntWalk.i64_in _ (by omega))
  obtain ⟨m, hm⟩ : ∃ m, n.tmod 64 = m := ⟨_, rfl⟩
  rw [hm] at HT HM ta tb
  clear t1
  go_enter Try.func44, Try.ntmps44
  go_wp2
  go_ret
  exact ⟨ret_i64 HT.out, rfl⟩

set_option maxHeartbeats 1000000 in
theorem rlen_any (h : RdQ w q st) (hl1 : st.B.length ≤ 1000000) (hl2 : st.J.length ≤ 1000000) :
    Calls Try.prog 15 #[.pointer (some ⟨q, 0, none⟩)] w fun e w' => e = .returned (.int .i64 ((st.B.length : Int) + st.J.length)) ∧ Below w.heap.size w w' := by
  obtain ⟨vB, vJ, hq, hB, hJ⟩ := h
  obtain ⟨a1, cp1, rfl⟩ := row_slice hB
  obtain ⟨a2, cp2, rfl⟩ := row_slice hJ
  obtain ⟨n1, hn1⟩ : ∃ n, st.B.length = n := ⟨_, rfl⟩
  obtain ⟨n2, hn2⟩ : ∃ n, st.J.length = n := ⟨_, rfl⟩
  rw [hn1] at hl1; rw [hn2] at hl2
  have c0 := blk_cell hq 0
  have c1 := blk_cell hq 1
  simp only [List.getElem?_toArray, List.getElem?_cons_succ, List.getElem?_cons_zero, hn1, hn2] at c0 c1
  rw [hn1, hn2]
  clear hq hB hJ hn1 hn2
  go_enter Try.func15, Try.ntmps15
  go_wp2
  go_quiet (fail)
  go_wp2
  go_ret
  exact ⟨rfl, ⟨rfl, rfl, rfl, Nat.le_refl _, fun _ _ => rfl⟩⟩

end Go.Proofs.Ytfipamdknanlmaa
