/- Contracts of package ranges, second part: takes, with. -/
import Derived.Test.YthkkhgfdppbphaaSpanA
namespace Go.Proofs.Ythkkhgfdppbphaa
open Go.RowKit Go.Sort
set_option linter.unusedVariables false

def takB (l : List Sp) (s : Sp) : Bool := canF (-1) l && okS (-1) s
theorem can_one (s : Sp) : canF (-1) [s] = okS (-1) s := by simp [canF]
theorem RdS_one (w : World) (s : Sp) : RdS (w.alloc (.cells #[.int .i64 s.fr, .int .i64 s.to] 24)) (.slice (some ⟨w.heap.size, 0, none⟩) 1 1) [s] := by
  refine ⟨_, 1, rfl, Nat.le_refl _, by simp, fun _ => ⟨w.heap.size, 0, rfl, fun i hi => ?_⟩⟩
  obtain rfl : i = 0 := by simpa using hi
  exact ⟨by simp [spAt], by simp [spAt]⟩

set_option maxHeartbeats 1000000 in
theorem takes_any (l : List Sp) (s : Sp) (a : Option Addr) (n c : Nat) (w : World) (h : RdS w (.slice a n c) l) :
    Calls Try.prog 33 #[.agg #[.slice a n c], spV s] w fun e w' => e = .returned (.bool (takB l s)) ∧ Below w.heap.size w w' := by
  obtain ⟨fr, to⟩ := s
  have hb0 : Below w.heap.size w ((w.alloc (.cells #[.slice a n c] 45)).alloc (.cells #[.int .i64 fr, .int .i64 to] 24)) := ((Below.refl _ _).alloc (Nat.le_refl _) _).alloc (by simp) _
  have c0 : ((w.alloc (.cells #[.slice a n c] 45)).alloc (.cells #[.int .i64 fr, .int .i64 to] 24)).cell? ⟨w.heap.size + 1, 0, none⟩ = some (.int .i64 fr) := by simp
  have c1 : ((w.alloc (.cells #[.slice a n c] 45)).alloc (.cells #[.int .i64 fr, .int .i64 to] 24)).cell? ⟨w.heap.size + 1, 1, none⟩ = some (.int .i64 to) := by simp
  have C0 := Lib.hid c0
  have C1 := Lib.hid c1
  have hR := h.stay hb0
  clear c0 c1
  have rb := run_bsS1
  cases hc : canF (-1) l
  case false =>
    have HR := Lib.hid (show takB l ⟨fr, to⟩ = false by simp [takB, hc])
    go_enter Try.func33, Try.ntmps33
    go_wp2_with fail
    refine (can_r hc _ _ hR).mono ?_
    rintro e w1 ⟨rfl, hb1⟩
    go_wp2
    go_ret
    exact ⟨by rw [HR.out]; rfl, below_mid hb0 hb1⟩
  case true =>
    have HR := Lib.hid (show takB l ⟨fr, to⟩ = canF (-1) [⟨fr, to⟩] by simp [takB, hc, can_one])
    go_enter Try.func33, Try.ntmps33
    go_wp2_with fail
    refine (can_r hc _ _ hR).mono ?_
    rintro e w1 ⟨rfl, hb1⟩
    have c0 := keep hb1 C0.out
    have c1 := keep hb1 C1.out
    replace hb0 := below_mid hb0 hb1
    clear hb1 C0 C1 hR
    go_wp2_with fail
    refine (valid_any [⟨fr, to⟩] _ _ (RdS_one w1 ⟨fr, to⟩)).mono ?_
    rintro e w2 ⟨rfl, hb2⟩
    go_wp2
    go_ret
    exact ⟨by rw [HR.out]; rfl, below_mid (hb0.alloc hb0.size _) hb2⟩
theorem tak_r {l : List Sp} {s : Sp} {r : Bool} (h : takB l s = r) (a : Option Addr) (n c : Nat) (w : World) (hR : RdS w (.slice a n c) l) :
    Calls Try.prog 33 #[.agg #[.slice a n c], spV s] w fun e w' => e = .returned (.bool r) ∧ Below w.heap.size w w' := h ▸ takes_any l s a n c w hR

theorem filter_take_succ (ps : List Sp) (k : Nat) (h : k < ps.length) : (ps.take (k + 1)).filter neB = (ps.take k).filter neB ++ oneF (spAt ps k) := by
  rw [List.take_succ_eq_append_getElem h, List.filter_append, spAt_eq ps k h]; rfl
theorem oneF_yes {x : Sp} (h : x.fr < x.to) : oneF x = [x] := by simp [oneF, neB, h]
theorem oneF_no {x : Sp} (h : ¬ x.fr < x.to) : oneF x = [] := by simp [oneF, neB]; omega

theorem grownBy_trans {w w1 w2 : World} {row row1 : Option Nat} (h : w.grownBy w1 row) (h1 : w1.grownBy w2 row1) (hr : row1 = none ∨ row1 = row ∨ ∃ g, row1 = some g ∧ w.heap.size ≤ g) : w.grownBy w2 row :=
  ⟨h1.os.trans h.os, h1.tape.trans h.tape, h1.output.trans h.output, Nat.le_trans h.size h1.size, fun k hk hne => by
    rw [h1.block k (Nat.lt_of_lt_of_le hk h.size) (fun e => by
      rcases hr with hr | hr | ⟨g, hr, hg⟩
      · rw [hr] at e; cases e
      · rw [hr] at e; exact hne e
      · rw [hr] at e; cases e; omega)]
    exact h.block k hk hne⟩
theorem grownBy_refl (w : World) (row : Option Nat) : w.grownBy w row := ⟨rfl, rfl, rfl, Nat.le_refl _, fun _ _ _ => rfl⟩
theorem grownBy_of_below {w w' : World} (h : Below w.heap.size w w') (row : Option Nat) : w.grownBy w' row :=
  ⟨h.os, h.tape, h.output, h.size, fun k hk _ => h.block k hk⟩
theorem below_of {B : Nat} {w w' : World} {row : Option Nat} (h : w.grownBy w' row) (hB : B ≤ w.heap.size) (hr : ∀ g, row = some g → B ≤ g) : Below B w w' := (Below.refl B w).grown h hB hr

/-- The pieces that are not empty, behind a row that the call owns. -/
def WithPost (w : World) (base : Nat) (v : Value) (r : List Sp) (e : Ending) (w' : World) : Prop :=
  ∃ v', e = .returned v' ∧ Owns w' base v' r ∧ w.grownBy w' v.ownBlock ∧ near w v v'

set_option maxHeartbeats 2000000 in
theorem with_any (base : Nat) (l ps : List Sp) (v u : Value) (w : World) (hO : Owns w base v l) (hP : RdS w u ps) (hne : ∀ a n c, u = .slice (some a) n c → n ≠ 0 → v.ownBlock ≠ some a.block) (hb0 : base ≤ w.heap.size) (hlen : l.length + ps.length ≤ 200000) :
    Calls Try.prog 34 #[v, u] w (WithPost w base v (l ++ ps.filter neB)) := by
  obtain ⟨a, cap, rfl, hcap, hpl, hp⟩ := hP
  have HP := Lib.hid hp
  have HN := Lib.hid hne
  have HO := Lib.hid hO
  obtain ⟨av, cv, rfl⟩ := hO.slice
  clear hp hne hO
  go_enter Try.func34, Try.ntmps34
  go_wp2
  go_loopw [0, 9] (fun out i wr => ∃ k : Nat, k ≤ ps.length ∧ i = .int .i64 k ∧ Owns wr base out (l ++ (ps.take k).filter neB) ∧ w.grownBy wr (Value.slice av l.length cv).ownBlock ∧ near w (.slice av l.length cv) out) (fun _ i _ => ps.length - (intOf i).toNat)
  case atStart => exact ⟨0, Nat.zero_le _, rfl, by simpa using HO.out, grownBy_refl _ _, near.refl _ _⟩
  case round =>
    obtain ⟨k, hk, rfl, hown, hgr, hnr⟩ := hrel
    have HW := Lib.hid hown
    have HG := Lib.hid hgr
    have HNR := Lib.hid hnr
    clear hown hgr hnr
    have hfl : ((ps.take k).filter neB).length ≤ k := Nat.le_trans (List.length_filter_le _ _) (by simp; omega)
    by_cases hlt : k < ps.length
    · obtain ⟨b, o, rfl, hc⟩ := HP.out (by omega)
      have hnb := HN.out _ _ _ rfl (by omega)
      obtain ⟨c0, c1⟩ := (hc k hlt).block (HG.out.block b (hc k hlt).lt (Ne.symm hnb))
      clear hc
      have hkc : k ≤ cap := by omega
      have HT := Lib.hid (filter_take_succ ps k hlt)
      generalize (ps.take k).filter neB = fk at *
      obtain ⟨lm, hlm⟩ : ∃ lm, lm = l ++ fk := ⟨_, rfl⟩
      rw [← hlm] at HW
      have hlml : lm.length = l.length + fk.length := by rw [hlm]; simp
      have HLM := Lib.hid hlm
      have hlmb : lm.length ≤ 200000 := by omega
      clear hlm hlml
      generalize spAt ps k = x at *
      obtain ⟨fr, to⟩ := x
      simp only at c0 c1
      obtain ⟨ao, co, rfl⟩ := HW.out.slice
      have hal := (Below.refl wr.heap.size wr).alloc (Nat.le_refl _) (.cells #[.int .i64 fr, .int .i64 to] 24)
      have HW1 := Lib.hid (ownsRow_stay hal HW.out)
      have HG1 := Lib.hid (grownBy_trans HG.out (grownBy_of_below hal none) (.inl rfl))
      have hws : w.heap.size ≤ wr.heap.size := HG.out.size
      by_cases hft : fr < to
      · have HY := Lib.hid (@oneF_yes ⟨fr, to⟩ hft)
        have rb := run_bsS1
        have hal2 := (Below.refl wr.heap.size wr).alloc (Nat.le_refl _) (.cells #[.int .i64 fr, .int .i64 to] 24) |>.alloc (by simp) (.cells #[.int .i64 fr, .int .i64 to] 24)
        have HW2 := Lib.hid (ownsRow_stay hal2 HW.out)
        have HG2 := Lib.hid (grownBy_trans HG.out (grownBy_of_below hal2 none) (.inl rfl))
        have hll : lm.length + 1 ≤ 1000000 := by omega
        have hbb : base ≤ ((wr.alloc (.cells #[.int .i64 fr, .int .i64 to] 24)).alloc (.cells #[.int .i64 fr, .int .i64 to] 24)).heap.size := by simp; omega
        have HSZ := Lib.hid (show wr.heap.size ≤ ((wr.alloc (.cells #[.int .i64 fr, .int .i64 to] 24)).alloc (.cells #[.int .i64 fr, .int .i64 to] 24)).heap.size by simp; omega)
        clear hal hal2 HW HW1 HG1
        go_wp2_with ((at_builtin; refine (show _ = True → _ from fun h => of_eq_true h) ?_))
        refine eq_true ?_
        refine wpList_appS rfl (.tmp 18) (.tmp 20) rfl rfl HW2.out [⟨fr, to⟩] rfl rfl (fun j u hj => by have := news2 (wr.alloc (.cells #[.int .i64 fr, .int .i64 to] 24)) ⟨fr, to⟩ 24 j u (by rw [← spcs_one]; exact hj); simpa using this) hll hbb ?_
        intro v' w' hown' hg' hn'
        have HW3 := Lib.hid hown'
        have HG3 := Lib.hid (grownBy_trans HG2.out hg' (by
          rcases HNR.out with h | h | h
          · exact .inl h
          · exact .inr (.inl h)
          · exact .inr (.inr h)))
        have HN3 := Lib.hid (near.trans (Nat.le_trans hws HSZ.out) HNR.out hn')
        clear hown' hg' hn' HW2 HG2 rb hbb
        go_wp2
        go_roundw
        case rel => exact ⟨k + 1, by omega, by go_num, by rw [HT.out, HY.out, ← List.append_assoc, ← HLM.out]; exact HW3.out, HG3.out, HN3.out⟩
        case measure => simp [intOf]; omega
      · have HY := Lib.hid (@oneF_no ⟨fr, to⟩ hft)
        clear hal HW HG
        go_wp2
        go_roundw
        case rel => exact ⟨k + 1, by omega, by go_num, by rw [HT.out, HY.out, List.append_nil, ← HLM.out]; exact HW1.out, HG1.out, HNR.out⟩
        case measure => simp [intOf]; omega
    · have HE := Lib.hid (show ps.take k = ps from List.take_of_length_le (by omega))
      go_wp2
      go_ret
      exact ⟨_, rfl, by rw [← HE.out]; exact HW.out, HG.out, HNR.out⟩

end Go.Proofs.Ythkkhgfdppbphaa
