/- Contract of store. Printed by wip/tools/gen20g.py. -/
import Derived.Test.YtapeljiopbkjlaaGreatDoorCev
import Derived.Test.YtapeljiopbkjlaaGreatDoorApf
import Derived.Test.YtapeljiopbkjlaaGreatDoorRegC
namespace Go.Proofs.YtapeljiopbkjlaaGreatDoor
open Go.RowKit Go.Sort
set_option linter.unusedVariables false
set_option maxRecDepth 100000

theorem set_same {α : Type} {L : List α} {j : Nat} {x : α} (h : L[j]? = some x) : L.set j x = L := by
  apply List.ext_getElem?
  intro k
  rw [List.getElem?_set]
  split
  · rename_i e; subst e
    have : j < L.length := by
      rcases Nat.lt_or_ge j L.length with h' | h'
      · exact h'
      · rw [List.getElem?_eq_none h'] at h; cases h
    obtain ⟨_, hx⟩ := List.getElem?_eq_some_iff.1 h
    simp [this, hx]
  · rfl
def storeF (l : List En) (e : En) : List En := (if 32 ≤ l.length then evictF l else l) ++ [e]
def RL (l l' : List En) : Prop := l' = l ∨ (l.length = 32 ∧ l' = evictF l)
theorem evictF_len {l : List En} (h : 0 < l.length) : (evictF l).length = l.length - 1 := by
  unfold evictF
  rw [List.length_eraseIdx, if_pos (leastTo_lt h _ (Nat.le_refl _))]
theorem RL_len {l l' : List En} (hl : l.length ≤ 32) (h : RL l l') : l'.length ≤ 32 := by
  rcases h with rfl | ⟨h1, rfl⟩
  · exact hl
  · rw [evictF_len (by omega)]; omega
theorem RL_evict {l l' : List En} (h : RL l l') (h32 : 32 ≤ l'.length) (hl : l.length ≤ 32) : RL l (evictF l') ∧ (evictF l').length = 31 := by
  rcases h with rfl | ⟨h1, rfl⟩
  · exact ⟨.inr ⟨by omega, rfl⟩, by rw [evictF_len (by omega)]; omega⟩
  · rw [evictF_len (by omega)] at h32; omega
theorem RL_store {l l' : List En} {e : En} (h : RL l l') (h32 : l'.length < 32) (hl : l.length ≤ 32) : l' ++ [e] = storeF l e := by
  unfold storeF
  rcases h with rfl | ⟨h1, rfl⟩
  · rw [if_neg (by omega)]
  · rw [if_pos (by omega)]
def slN : Option Value → Nat
  | some (.slice _ n _) => n
  | _ => 0
theorem resC_len {w0 w : World} {D : Nat → Prop} {L : List Res} {c : Nat} {l : List En} (h : Own w0 D w (resC c l :: L)) : slN (w.cell? ⟨c, 0, none⟩) = l.length := by
  obtain ⟨v, hO⟩ := openC' h
  obtain ⟨a, cap, rfl⟩ := row_shape (hO.row 1 rfl)
  rw [hO.cell 0 rfl 0 rfl]; rfl
def stRel (w0 : World) (D : Nat → Prop) (c b : Nat) (l : List En) (e : En) (iv : Value) (wr : World) : Prop :=
  (iv = .int .i64 0 ∧ Own w0 D wr [resC c l, blkR b (.cells (enA e) 78)]) ∨ (iv = .int .i64 1 ∧ Own w0 D wr [resC c (storeF l e), blkR b (.cells (enA e) 78)])
theorem run_bsE (nm : ByteArray) (kd ad : Int) (to : ByteArray) (ex : Int) (w : World) : (Instr.buildSlice 65 1 #[(0, .agg #[.string nm, .int .i64 kd, .int .i64 ad, .string to, .int .i64 ex])]).run Tryz.prog w = .ok (.slice (some ⟨w.heap.size, 0, none⟩) 1 1) (w.alloc (.cells #[.string nm, .int .i64 kd, .int .i64 ad, .string to, .int .i64 ex] 78)) := by kernel_rfl
theorem infoE : (Tryz.prog.info? 78).map (fun i => (i.zero, i.size, i.bytes)) = some (some (.agg #[.string ⟨#[]⟩, .int .i64 0, .int .i64 0, .string ⟨#[]⟩, .int .i64 0]), 5, 56) := by kernel_rfl
theorem oneE (e : En) : ∀ u ∈ cEn e, u.oneCell' = true := by
  intro u hu; simp [cEn] at hu; rcases hu with h | h | h | h | h <;> (subst h; rfl)
set_option maxHeartbeats 8000000 in
theorem store_o {w0 w : World} {D : Nat → Prop} {L : List Res} {c b : Nat} {l : List En} {e : En} (h : Own w0 D w L) (i : Nat) (hi : L[i]? = some (resC c l)) (j : Nat) (hj : L[j]? = some (blkR b (.cells (enA e) 78))) (hij : i ≠ j) (hl : l.length ≤ 32) :
    Calls Tryz.prog 28 #[.pointer (some ⟨c, 0, none⟩), .slice (some ⟨b, 0, none⟩) 1 1] w (OPost w0 D (L.set i (resC c (storeF l e))) (.tuple #[]) w) := by
  have hset : (L.set i (resC c (storeF l e))).set j (blkR b (.cells (enA e) 78)) = L.set i (resC c (storeF l e)) := set_same (by rw [List.getElem?_set_ne hij]; exact hj)
  rw [← hset]
  refine o_two h hi hj hij fun D HO0 => ?_
  clear hset h hi hj hij
  have HO := Lib.hid HO0
  have HL32 := Lib.hid hl
  clear HO0 hl
  go_enter Tryz.func28, Tryz.ntmps28
  go_wp2
  go_loopw [8] (fun iv wr => stRel w D c b l e iv wr) (fun iv _ => 1 - (intOf iv).toNat)
  case atStart => exact .inl ⟨rfl, HO.out⟩
  case round =>
    rcases hrel with ⟨rfl, hO⟩ | ⟨rfl, hO⟩
    · obtain ⟨nm, kd, ad, to, ex⟩ := e
      replace HO := Lib.hid (show Own w D wr [resC c l, blkR b (.cells #[.string nm, .int .i64 kd, .int .i64 ad, .string to, .int .i64 ex] 78)] from hO)
      clear hO
      have z1_0 : wr.cell? ⟨b, 0, none⟩ = some (.string nm) := HO.out.cell 1 rfl 0 rfl
      have z1_1 : wr.cell? ⟨b, 1, none⟩ = some (.int .i64 kd) := HO.out.cell 1 rfl 1 rfl
      have z1_2 : wr.cell? ⟨b, 2, none⟩ = some (.int .i64 ad) := HO.out.cell 1 rfl 2 rfl
      have z1_3 : wr.cell? ⟨b, 3, none⟩ = some (.string to) := HO.out.cell 1 rfl 3 rfl
      have z1_4 : wr.cell? ⟨b, 4, none⟩ = some (.int .i64 ex) := HO.out.cell 1 rfl 4 rfl
      obtain ⟨x21, hx21⟩ : ∃ y, wr.alloc (.cells #[.string ⟨#[]⟩, .int .i64 0, .int .i64 0, .string ⟨#[]⟩, .int .i64 0] 78) = y := ⟨_, rfl⟩
      obtain ⟨bx, hbx⟩ : ∃ y, wr.heap.size = y := ⟨_, rfl⟩
      have hO := HO.out.alloc (.cells #[.string ⟨#[]⟩, .int .i64 0, .int .i64 0, .string ⟨#[]⟩, .int .i64 0] 78)
      rw [hx21, hbx] at hO
      replace HO := Lib.hid (show Own w D x21 [resC c l, blkR b (.cells #[.string nm, .int .i64 kd, .int .i64 ad, .string to, .int .i64 ex] 78), blkR bx (.cells #[.string ⟨#[]⟩, .int .i64 0, .int .i64 0, .string ⟨#[]⟩, .int .i64 0] 78)] from hO)
      clear hO
      have k2_0_22 : x21.cell? ⟨bx, 0, none⟩ = some (.string ⟨#[]⟩) := HO.out.cell 2 rfl 0 rfl
      have lk2_0_22 : x21.frozen? ⟨bx, 0, none⟩ = false := HO.out.frz 2 rfl 0
      have k2_1_23 : x21.cell? ⟨bx, 1, none⟩ = some (.int .i64 0) := HO.out.cell 2 rfl 1 rfl
      have lk2_1_23 : x21.frozen? ⟨bx, 1, none⟩ = false := HO.out.frz 2 rfl 1
      have k2_2_24 : x21.cell? ⟨bx, 2, none⟩ = some (.int .i64 0) := HO.out.cell 2 rfl 2 rfl
      have lk2_2_24 : x21.frozen? ⟨bx, 2, none⟩ = false := HO.out.frz 2 rfl 2
      have k2_3_25 : x21.cell? ⟨bx, 3, none⟩ = some (.string ⟨#[]⟩) := HO.out.cell 2 rfl 3 rfl
      have lk2_3_25 : x21.frozen? ⟨bx, 3, none⟩ = false := HO.out.frz 2 rfl 3
      have k2_4_26 : x21.cell? ⟨bx, 4, none⟩ = some (.int .i64 0) := HO.out.cell 2 rfl 4 rfl
      have lk2_4_26 : x21.frozen? ⟨bx, 4, none⟩ = false := HO.out.frz 2 rfl 4
      obtain ⟨x27, hx27⟩ : ∃ y, x21.setCell ⟨bx, 0, none⟩ (.string nm) = y := ⟨_, rfl⟩
      have hO := HO.out.setCell 2 rfl 0 (.string nm)
      rw [hx27] at hO
      replace HO := Lib.hid (show Own w D x27 [resC c l, blkR b (.cells #[.string nm, .int .i64 kd, .int .i64 ad, .string to, .int .i64 ex] 78), blkR bx (.cells #[.string nm, .int .i64 0, .int .i64 0, .string ⟨#[]⟩, .int .i64 0] 78)] from hO)
      clear hO
      have k2_1_28 : x27.cell? ⟨bx, 1, none⟩ = some (.int .i64 0) := HO.out.cell 2 rfl 1 rfl
      have lk2_1_28 : x27.frozen? ⟨bx, 1, none⟩ = false := HO.out.frz 2 rfl 1
      have k2_2_29 : x27.cell? ⟨bx, 2, none⟩ = some (.int .i64 0) := HO.out.cell 2 rfl 2 rfl
      have lk2_2_29 : x27.frozen? ⟨bx, 2, none⟩ = false := HO.out.frz 2 rfl 2
      have k2_3_30 : x27.cell? ⟨bx, 3, none⟩ = some (.string ⟨#[]⟩) := HO.out.cell 2 rfl 3 rfl
      have lk2_3_30 : x27.frozen? ⟨bx, 3, none⟩ = false := HO.out.frz 2 rfl 3
      have k2_4_31 : x27.cell? ⟨bx, 4, none⟩ = some (.int .i64 0) := HO.out.cell 2 rfl 4 rfl
      have lk2_4_31 : x27.frozen? ⟨bx, 4, none⟩ = false := HO.out.frz 2 rfl 4
      obtain ⟨x32, hx32⟩ : ∃ y, x27.setCell ⟨bx, 1, none⟩ (.int .i64 kd) = y := ⟨_, rfl⟩
      have hO := HO.out.setCell 2 rfl 1 (.int .i64 kd)
      rw [hx32] at hO
      replace HO := Lib.hid (show Own w D x32 [resC c l, blkR b (.cells #[.string nm, .int .i64 kd, .int .i64 ad, .string to, .int .i64 ex] 78), blkR bx (.cells #[.string nm, .int .i64 kd, .int .i64 0, .string ⟨#[]⟩, .int .i64 0] 78)] from hO)
      clear hO
      have k2_2_33 : x32.cell? ⟨bx, 2, none⟩ = some (.int .i64 0) := HO.out.cell 2 rfl 2 rfl
      have lk2_2_33 : x32.frozen? ⟨bx, 2, none⟩ = false := HO.out.frz 2 rfl 2
      have k2_3_34 : x32.cell? ⟨bx, 3, none⟩ = some (.string ⟨#[]⟩) := HO.out.cell 2 rfl 3 rfl
      have lk2_3_34 : x32.frozen? ⟨bx, 3, none⟩ = false := HO.out.frz 2 rfl 3
      have k2_4_35 : x32.cell? ⟨bx, 4, none⟩ = some (.int .i64 0) := HO.out.cell 2 rfl 4 rfl
      have lk2_4_35 : x32.frozen? ⟨bx, 4, none⟩ = false := HO.out.frz 2 rfl 4
      obtain ⟨x36, hx36⟩ : ∃ y, x32.setCell ⟨bx, 2, none⟩ (.int .i64 ad) = y := ⟨_, rfl⟩
      have hO := HO.out.setCell 2 rfl 2 (.int .i64 ad)
      rw [hx36] at hO
      replace HO := Lib.hid (show Own w D x36 [resC c l, blkR b (.cells #[.string nm, .int .i64 kd, .int .i64 ad, .string to, .int .i64 ex] 78), blkR bx (.cells #[.string nm, .int .i64 kd, .int .i64 ad, .string ⟨#[]⟩, .int .i64 0] 78)] from hO)
      clear hO
      have k2_3_37 : x36.cell? ⟨bx, 3, none⟩ = some (.string ⟨#[]⟩) := HO.out.cell 2 rfl 3 rfl
      have lk2_3_37 : x36.frozen? ⟨bx, 3, none⟩ = false := HO.out.frz 2 rfl 3
      have k2_4_38 : x36.cell? ⟨bx, 4, none⟩ = some (.int .i64 0) := HO.out.cell 2 rfl 4 rfl
      have lk2_4_38 : x36.frozen? ⟨bx, 4, none⟩ = false := HO.out.frz 2 rfl 4
      obtain ⟨x39, hx39⟩ : ∃ y, x36.setCell ⟨bx, 3, none⟩ (.string to) = y := ⟨_, rfl⟩
      have hO := HO.out.setCell 2 rfl 3 (.string to)
      rw [hx39] at hO
      replace HO := Lib.hid (show Own w D x39 [resC c l, blkR b (.cells #[.string nm, .int .i64 kd, .int .i64 ad, .string to, .int .i64 ex] 78), blkR bx (.cells #[.string nm, .int .i64 kd, .int .i64 ad, .string to, .int .i64 0] 78)] from hO)
      clear hO
      have k2_4_40 : x39.cell? ⟨bx, 4, none⟩ = some (.int .i64 0) := HO.out.cell 2 rfl 4 rfl
      have lk2_4_40 : x39.frozen? ⟨bx, 4, none⟩ = false := HO.out.frz 2 rfl 4
      obtain ⟨x41, hx41⟩ : ∃ y, x39.setCell ⟨bx, 4, none⟩ (.int .i64 ex) = y := ⟨_, rfl⟩
      have hO := HO.out.setCell 2 rfl 4 (.int .i64 ex)
      rw [hx41] at hO
      replace HO := Lib.hid (show Own w D x41 [resC c l, blkR b (.cells #[.string nm, .int .i64 kd, .int .i64 ad, .string to, .int .i64 ex] 78), blkR bx (.cells #[.string nm, .int .i64 kd, .int .i64 ad, .string to, .int .i64 ex] 78)] from hO)
      clear hO
      go_wp2
      clear z1_0 z1_1 z1_2 z1_3 z1_4
      clear hx21 hbx k2_0_22 lk2_0_22 k2_1_23 lk2_1_23 k2_2_24 lk2_2_24 k2_3_25 lk2_3_25 k2_4_26 lk2_4_26 hx27 k2_1_28 lk2_1_28 k2_2_29 lk2_2_29 k2_3_30 lk2_3_30 k2_4_31 lk2_4_31 hx32 k2_2_33 lk2_2_33 k2_3_34 lk2_3_34 k2_4_35 lk2_4_35 hx36 k2_3_37 lk2_3_37 k2_4_38 lk2_4_38 hx39 k2_4_40 lk2_4_40 hx41
      go_loopw [] (fun wq => ∃ l', RL l l' ∧ Own w D wq [resC c l', blkR b (.cells #[.string nm, .int .i64 kd, .int .i64 ad, .string to, .int .i64 ex] 78), blkR bx (.cells #[.string nm, .int .i64 kd, .int .i64 ad, .string to, .int .i64 ex] 78)]) (fun wq => slN (wq.cell? ⟨c, 0, none⟩))
      case atStart => exact ⟨l, .inl rfl, HO.out⟩
      case round =>
        obtain ⟨l', hrl, hO⟩ := hrel
        replace HO := Lib.hid (show Own w D wr [resC c l', blkR b (.cells #[.string nm, .int .i64 kd, .int .i64 ad, .string to, .int .i64 ex] 78), blkR bx (.cells #[.string nm, .int .i64 kd, .int .i64 ad, .string to, .int .i64 ex] 78)] from hO)
        have HLN := Lib.hid (resC_len hO)
        have hl32 := RL_len HL32.out hrl
        have HRL := Lib.hid hrl
        obtain ⟨v, hO2⟩ := openC' hO
        have HO2 := Lib.hid (show Own w D wr [blkC c v, rowE v l', blkR b (.cells #[.string nm, .int .i64 kd, .int .i64 ad, .string to, .int .i64 ex] 78), blkR bx (.cells #[.string nm, .int .i64 kd, .int .i64 ad, .string to, .int .i64 ex] 78)] from hO2)
        clear hO hO2 hrl
        obtain ⟨a, cap, hv⟩ := row_shape (HO2.out.row 1 rfl)
        obtain ⟨n, hn⟩ : ∃ n, l'.length = n := ⟨_, rfl⟩
        rw [hn] at hv hl32
        have HN := Lib.hid hn
        subst hv
        clear hn
        have c1 : wr.cell? ⟨c, 0, none⟩ = some (.slice a n cap) := HO2.out.cell 0 rfl 0 rfl
        by_cases h32 : n < 32
        · clear HLN
          go_wp2
          generalize hΓ : ghS w D (apS [blkC c (.slice a n cap), rowE (.slice a n cap) l', blkR b (.cells #[.string nm, .int .i64 kd, .int .i64 ad, .string to, .int .i64 ex] 78), blkR bx (.cells #[.string nm, .int .i64 kd, .int .i64 ad, .string to, .int .i64 ex] 78)] 1 (cEn ⟨nm, kd, ad, to, ex⟩) 78 (fun v' => rowR v' 78 5 (n + 1) (l'.flatMap cEn ++ cEn ⟨nm, kd, ad, to, ex⟩))) = Γ
          have HST := Lib.hid (show Γ.inv [] wr by rw [← hΓ]; exact apS_start HO2.out)
          have q0 : ∀ q : Γ.Wd, q.w.cell? ⟨c, 0, none⟩ = some (.slice a n cap) := by rw [← hΓ]; exact apS_cell (c := #[.slice a n cap]) (t := 69) 0 rfl (by decide) 0 rfl
          have q1 : ∀ q : Γ.Wd, q.w.cell? ⟨bx, 0, none⟩ = some (.string nm) := by rw [← hΓ]; exact apS_cell (c := #[.string nm, .int .i64 kd, .int .i64 ad, .string to, .int .i64 ex]) (t := 78) 3 rfl (by decide) 0 rfl
          have q2 : ∀ q : Γ.Wd, q.w.cell? ⟨bx, 1, none⟩ = some (.int .i64 kd) := by rw [← hΓ]; exact apS_cell (c := #[.string nm, .int .i64 kd, .int .i64 ad, .string to, .int .i64 ex]) (t := 78) 3 rfl (by decide) 1 rfl
          have q3 : ∀ q : Γ.Wd, q.w.cell? ⟨bx, 2, none⟩ = some (.int .i64 ad) := by rw [← hΓ]; exact apS_cell (c := #[.string nm, .int .i64 kd, .int .i64 ad, .string to, .int .i64 ex]) (t := 78) 3 rfl (by decide) 2 rfl
          have q4 : ∀ q : Γ.Wd, q.w.cell? ⟨bx, 3, none⟩ = some (.string to) := by rw [← hΓ]; exact apS_cell (c := #[.string nm, .int .i64 kd, .int .i64 ad, .string to, .int .i64 ex]) (t := 78) 3 rfl (by decide) 3 rfl
          have q5 : ∀ q : Γ.Wd, q.w.cell? ⟨bx, 4, none⟩ = some (.int .i64 ex) := by rw [← hΓ]; exact apS_cell (c := #[.string nm, .int .i64 kd, .int .i64 ad, .string to, .int .i64 ex]) (t := 78) 3 rfl (by decide) 4 rfl
          have HΓ := Lib.hid hΓ
          clear hΓ c1
          have ne : Nonempty Γ.Wd := ⟨⟨[], wr, HST.out⟩⟩
          refine wp_region_H Γ 10 [6, 7] (by kernel_rfl) (by kernel_rfl) (by kernel_rfl) (by kernel_rfl) HST.out ?_
          simp only [List.take, List.drop]
          iterate 6 (first | (refine wpH_want (by kernel_rfl) (by kernel_rfl) rfl rfl ?_; intro K hK; go_big_quiet_op; go_big_quiet_on) | (refine wpH_is (by kernel_rfl) (by kernel_rfl) rfl _ (fun _ w _ => rfl) ?_; simp only [Act.put, List.setIfInBounds_toArray, List.set_cons_succ, List.set_cons_zero]))
          refine wpH_chainX 0 (gnth 0) (gnth_lasts _ _) (by kernel_rfl) (by kernel_rfl) (fun a' g hg hgl he => ?_) (fun d hd => ?_)
          · obtain ⟨h25, _⟩ := he
            have h25' : a'.eval (.tmp 25) = .agg #[.string nm, .int .i64 kd, .int .i64 ad, .string to, .int .i64 ex] := h25
            refine wp_of_value (v := .slice (some ⟨g.w.heap.size, 0, none⟩) 1 1) (w' := g.w.alloc (.cells #[.string nm, .int .i64 kd, .int .i64 ad, .string to, .int .i64 ex] 78)) (run_v_ok ?_) ⟨_, rfl, ?_, ?_⟩
            · simp only [List.map_toArray, List.map_cons, List.map_nil, h25']
              exact run_bsE _ _ _ _ _ _
            · rw [← HΓ.out] at hg ⊢
              exact apS_build hg hgl
            · have : g.vs = [] := List.eq_nil_of_length_eq_zero hgl
              rw [this]; rfl
          cases hd
          simp only [List.nil_append]
          refine wpH_chainX 1 (gnth 1) (gnth_lasts _ _) (by kernel_rfl) (by kernel_rfl) (fun a' g hg hgl he => ?_) (fun d hd => ?_)
          · obtain ⟨h24, h26, _⟩ := he
            have h24' : a'.eval (.tmp 24) = .slice a n cap := h24
            rw [← HΓ.out] at hg ⊢
            exact apS_app (.tmp 24) (.tmp 26) 65 rfl Tryz.underlying65 infoE rfl (by decide) (by have := HN.out; subst this; rfl) rfl (oneE _) (by unfold maxLen; omega) (by omega) hg hgl h24' h26
          cases hd
          simp only [List.cons_append, List.nil_append]
          iterate 2 (first | (refine wpH_want (by kernel_rfl) (by kernel_rfl) rfl rfl ?_; intro K hK; go_big_quiet_op; go_big_quiet_on) | (refine wpH_is (by kernel_rfl) (by kernel_rfl) rfl _ (fun _ w _ => rfl) ?_; simp only [Act.put, List.setIfInBounds_toArray, List.set_cons_succ, List.set_cons_zero]))
          refine wpH_nil (by kernel_rfl) (by simp) ?_
          rintro ⟨vs, x5⟩ hg hgl
          rw [← HΓ.out] at hg
          obtain ⟨s, v, hvs, hO⟩ := apS_end hg hgl
          obtain rfl : vs = [s, v] := hvs
          simp only [gexAll]
          rintro u26 - u27 hu27
          obtain rfl : v = u27 := by simpa [gnth] using hu27
          simp only [List.drop]
          clear ne HST hg hgl HΓ q0 q1 q2 q3 q4 q5
          replace HO := Lib.hid (show Own w D x5 [blkC c (.slice a n cap), rowR v 78 5 (n + 1) (l'.flatMap cEn ++ cEn ⟨nm, kd, ad, to, ex⟩), blkR b (.cells #[.string nm, .int .i64 kd, .int .i64 ad, .string to, .int .i64 ex] 78), blkR bx (.cells #[.string nm, .int .i64 kd, .int .i64 ad, .string to, .int .i64 ex] 78)] from hO)
          clear hO
          obtain ⟨va, vc, hv⟩ := row_shape (HO.out.row 1 rfl)
          obtain ⟨vn, hvn⟩ : ∃ y, n + 1 = y := ⟨_, rfl⟩
          rw [hvn] at hv
          subst hv
          clear hvn
          have c1 : x5.cell? ⟨c, 0, none⟩ = some (.slice a n cap) := HO.out.cell 0 rfl 0 rfl
          have f1 : x5.frozen? ⟨c, 0, none⟩ = false := HO.out.frz 0 rfl 0
          obtain ⟨x6, hx6⟩ : ∃ y, x5.setCell ⟨c, 0, none⟩ (.slice va vn vc) = y := ⟨_, rfl⟩
          have hO := HO.out.setCell 0 rfl 0 (.slice va vn vc)
          rw [hx6] at hO
          have he : l' ++ [⟨nm, kd, ad, to, ex⟩] = storeF l ⟨nm, kd, ad, to, ex⟩ := RL_store HRL.out (by have := HN.out; omega) HL32.out
          have HE := Lib.hid (show rowR (.slice va vn vc) 78 5 (n + 1) (l'.flatMap cEn ++ cEn ⟨nm, kd, ad, to, ex⟩) = rowE (.slice va vn vc) (storeF l ⟨nm, kd, ad, to, ex⟩) by
            rw [← he]
            show _ = rowR _ _ _ _ _
            rw [List.length_append, List.flatMap_append, HN.out]; rfl)
          have HO2 := Lib.hid (shutC' (show Own w D x6 (blkC c (.slice va vn vc) :: rowE (.slice va vn vc) (storeF l ⟨nm, kd, ad, to, ex⟩) :: [blkR b (.cells #[.string nm, .int .i64 kd, .int .i64 ad, .string to, .int .i64 ex] 78), blkR bx (.cells #[.string nm, .int .i64 kd, .int .i64 ad, .string to, .int .i64 ex] 78)]) by rw [← HE.out]; exact hO))
          clear hO he
          go_wp2
          go_roundw
          case rel => exact .inr ⟨rfl, HO2.out.take 2⟩
          case measure => simp [intOf]
        · have h32' : 32 ≤ n := by omega
          have hev := evict_o HO.out 0 rfl (by have := HN.out; omega) (by have := HN.out; omega)
          go_wp2_with fail
          refine hev.mono ?_
          rintro e x3 ⟨rfl, hO, -⟩
          have HE := Lib.hid (RL_evict HRL.out (by have := HN.out; omega) HL32.out)
          have HLM := Lib.hid (resC_len (show Own w D x3 (resC c (evictF l') :: [blkR b (.cells #[.string nm, .int .i64 kd, .int .i64 ad, .string to, .int .i64 ex] 78), blkR bx (.cells #[.string nm, .int .i64 kd, .int .i64 ad, .string to, .int .i64 ex] 78)]) from hO))
          have HO3 := Lib.hid hO
          clear hO hev c1
          go_wp2
          go_roundw
          case rel => exact ⟨evictF l', HE.out.1, HO3.out⟩
          case measure => rw [HLM.out, HLN.out, HE.out.2]; have := HN.out; omega

    · go_wp2
      go_end0
      exact ⟨rfl, hO, hO.size⟩

end Go.Proofs.YtapeljiopbkjlaaGreatDoor
