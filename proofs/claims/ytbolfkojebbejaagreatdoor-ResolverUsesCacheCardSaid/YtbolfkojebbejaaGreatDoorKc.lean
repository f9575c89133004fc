/- The reference's cache of chapter 20: data, Len, time, thing, ahead, keep. -/
import Derived.Test.YtbolfkojebbejaaGreatDoorRw
import Derived.Test.YtbolfkojebbejaaGreatDoorBc
set_option linter.unusedVariables false
set_option maxRecDepth 100000
set_option maxHeartbeats 32000000
namespace Go.Proofs.YtbolfkojebbejaaGreatDoor
open Go.RowKit Go.Sort

abbrev itA (e : En) : Array Value := #[.string e.nm, .int .i64 e.kd, .int .i64 0, .int .i64 e.ad, .string e.to, .int .i64 e.ex]
abbrev itV (e : En) : Value := .agg (itA e)
def cIt (e : En) : List Value := (itA e).toList
abbrev rowIt (v : Value) (l : List En) : Res := rowR v 141 6 l.length (l.flatMap cIt)
abbrev blkI (c : Nat) (v : Value) : Res := blkR c (.cells #[v] 46)
def resI (c : Nat) (l : List En) : Res := exR fun v : Value => sepR [blkI c v, rowIt v l]
section
variable {w0 w : World} {D : Nat → Prop} {L : List Res} {c : Nat} {l : List En}
theorem openI' (h : Own w0 D w (resI c l :: L)) : ∃ v, Own w0 D w (blkI c v :: rowIt v l :: L) := by
 obtain ⟨v, h⟩ := Own.openExC h
 exact ⟨v, Own.openC h⟩
theorem shutI' {v : Value} (h : Own w0 D w (blkI c v :: rowIt v l :: L)) : Own w0 D w (resI c l :: L) := Own.shutExC (f := fun v : Value => sepR [blkI c v, rowIt v l]) v (Own.shutC (Rs := [blkI c v, rowIt v l]) h)
end
theorem infoIt : (Tryz.prog.info? 141).map (fun i => (i.zero, i.size, i.bytes)) = some (some (.agg #[.string ⟨#[]⟩, .int .i64 0, .int .i64 0, .int .i64 0, .string ⟨#[]⟩, .int .i64 0]), 6, 64) := by kernel_rfl
theorem elemIt : Tryz.prog.underlying 44 = some (.slice (Tryz.prog.elem 44)) := by kernel_rfl
theorem sizeIt (w : World) : (sizeOf (Tryz.prog.elem 44)).run Tryz.prog w = .ok 6 w := by kernel_rfl
theorem run_bsIt0 (w : World) : (Instr.buildSlice 44 0 #[]).run Tryz.prog w = .ok (.slice (some ⟨w.heap.size, 0, none⟩) 0 0) (w.alloc (.cells #[] 141)) := by kernel_rfl
theorem run_bsIt (nm : ByteArray) (kd ad : Int) (to : ByteArray) (ex : Int) (w : World) : (Instr.buildSlice 44 1 #[(0, .agg #[.string nm, .int .i64 kd, .int .i64 0, .int .i64 ad, .string to, .int .i64 ex])]).run Tryz.prog w = .ok (.slice (some ⟨w.heap.size, 0, none⟩) 1 1) (w.alloc (.cells #[.string nm, .int .i64 kd, .int .i64 0, .int .i64 ad, .string to, .int .i64 ex] 141)) := by kernel_rfl
theorem oneIt (e : En) : ∀ u ∈ cIt e, u.oneCell' = true := by
 intro u hu; simp [cIt] at hu; rcases hu with h | h | h | h | h | h <;> (subst h; rfl)
theorem cIt_one (l : List En) : ∀ u ∈ l.flatMap cIt, u.oneCell' = true := by
 intro u hu
 obtain ⟨e, _, he⟩ := List.mem_flatMap.1 hu
 exact oneIt e u he
theorem flat_dropK {κ : Type} (kc : κ → List Value) (sz : Nat) (h : ∀ k, (kc k).length = sz) : ∀ (l : List κ) (j : Nat), (l.drop j).flatMap kc = (l.flatMap kc).drop (j * sz)
 | l, 0 => by simp
 | [], j + 1 => by simp
 | x :: l, j + 1 => by
  rw [List.drop_succ_cons, flat_dropK kc sz h l j, List.flatMap_cons, show (j + 1) * sz = sz + j * sz by rw [Nat.add_mul]; omega, ← List.drop_drop, List.drop_left' (h x)]
theorem erase_flatK {κ : Type} (kc : κ → List Value) (sz : Nat) (h : ∀ k, (kc k).length = sz) (l : List κ) (i : Nat) : (l.eraseIdx i).flatMap kc = (l.flatMap kc).take (i * sz) ++ (l.flatMap kc).drop ((i + 1) * sz) := by
 rw [List.eraseIdx_eq_take_drop_succ, List.flatMap_append, flat_take kc sz h, flat_dropK kc sz h]
def timB (now : Int) : Bool := decide (0 ≤ now) && decide (now ≤ 1000000000)
theorem time_any (now : Int) (w : World) : Calls Tryz.prog 65 #[.int .i64 now] w fun e w' => e = .returned (.bool (timB now)) ∧ w = w' := by
 unfold timB
 go_enter Tryz.func65, Tryz.ntmps65
 go_wp2
 all_goals (go_ret; refine ⟨ret_bool ?_, rfl⟩; first | (rw [Bool.eq_iff_iff]; done) | (rw [Bool.eq_iff_iff]; simp; done) | (rw [Bool.eq_iff_iff]; simp; omega))
theorem time_r {now : Int} {b : Bool} (h : timB now = b) (w : World) : Calls Tryz.prog 65 #[.int .i64 now] w fun e w' => e = .returned (.bool b) ∧ w = w' := h ▸ time_any now w
theorem thing_any (nm : ByteArray) (kd tt ad : Int) (to : ByteArray) (w : World) : Calls Tryz.prog 68 #[.agg #[.string nm, .int .i64 kd, .int .i64 tt, .int .i64 ad, .string to]] w (crPost (.agg #[.string nm, .int .i64 kd, .int .i64 0, .int .i64 ad, .string to]) w) := by
 have HO := Hi (Own.nil w none0)
 obtain ⟨x1, hx1, bp, hbp, hO⟩ := HO.out.allocE (.cells #[.string nm, .int .i64 kd, .int .i64 tt, .int .i64 ad, .string to] 49)
 replace HO := Hi (show Own w none0 x1 [blkR bp (.cells #[.string nm, .int .i64 kd, .int .i64 tt, .int .i64 ad, .string to] 49)] from hO)
 clear hO
 obtain ⟨x2, hx2, br, hbr, hO⟩ := HO.out.allocE (.cells #[.string ⟨#[]⟩, .int .i64 0, .int .i64 0, .int .i64 0, .string ⟨#[]⟩] 49)
 replace HO := Hi (show Own _ _ _ [_, blkR br (.cells #[.string ⟨#[]⟩, .int .i64 0, .int .i64 0, .int .i64 0, .string ⟨#[]⟩] 49)] from hO)
 clear hO
 have ⟨z0_2, y0_2⟩ : x2.cell? _ = some (.int .i64 tt) ∧ _ := HO.out.cf 0 rfl 2 rfl
 obtain ⟨x3, hx3, hO⟩ := HO.out.setE 0 rfl 2 (.int .i64 0)
 replace HO := Hi (show Own _ _ _ [blkR bp (.cells #[.string nm, .int .i64 kd, .int .i64 0, .int .i64 ad, .string to] 49), _] from hO)
 clear hO
 obtain ⟨z0_0, z0_1, z0_2t, z0_3, z0_4⟩ := HO.out.c5 0 rfl
 obtain ⟨x9, x14, x18, x21, x23, hx9, hx14, hx18, hx21, hx23, k1_0_4, lk1_0_4, k1_1_10, lk1_1_10, k1_2_15, lk1_2_15, k1_3_19, lk1_3_19, k1_4_22, lk1_4_22, hO⟩ := HO.out.steps5 1 rfl (.string nm) (.int .i64 kd) (.int .i64 0) (.int .i64 ad) (.string to)
 replace HO := Hi (show Own _ _ _ [_, blkR br (.cells #[.string nm, .int .i64 kd, .int .i64 0, .int .i64 ad, .string to] 49)] from hO)
 clear hO
 obtain ⟨r0, r1, r2, r3, r4⟩ := HO.out.c5 1 rfl
 go_enter Tryz.func68, Tryz.ntmps68
 go_wp2
 exact bodyPost_ret (v := .agg #[.string nm, .int .i64 kd, .int .i64 0, .int .i64 ad, .string to]) (by simp [results, Tryz.results68, go_sem, r0, r1, r2, r3, r4]) rfl ⟨rfl, HO.out.below⟩
def ahdB (x y : Rc) : Bool := decide (ltR x y)
theorem ahd_k {x y : Rc} (h : (x.kd == y.kd) = false) : ahdB x y = decide (x.kd < y.kd) := by
 have h' : x.kd ≠ y.kd := by simpa using h
 unfold ahdB ltR
 simp [h']
theorem ahd_a {x y : Rc} (h : x.kd = y.kd) (h2 : (x.ad == y.ad) = false) : ahdB x y = decide (x.ad < y.ad) := by
 have h' : x.ad ≠ y.ad := by simpa using h2
 unfold ahdB ltR
 simp [h, h']
theorem ahd_t {x y : Rc} (h : x.kd = y.kd) (h2 : x.ad = y.ad) : ahdB x y = Op.bytesLess x.to.toList y.to.toList := by
 unfold ahdB ltR
 simp [h, h2]
theorem ahead_any (x y : Rc) (w : World) : Calls Tryz.prog 74 #[rcV x, rcV y] w (crPost (.bool (ahdB x y)) w) := by
 obtain ⟨x0, x1, x2, x3, x4⟩ := x
 obtain ⟨y0, y1, y2, y3, y4⟩ := y
 have HO := Hi (Own.nil w none0)
 obtain ⟨x11, hx11, bp, hbp, hO⟩ := HO.out.allocE (.cells #[.string x0, .int .i64 x1, .int .i64 x2, .int .i64 x3, .string x4] 49)
 replace HO := Hi (show Own w none0 x11 [blkR bp (.cells #[.string x0, .int .i64 x1, .int .i64 x2, .int .i64 x3, .string x4] 49)] from hO)
 clear hO
 obtain ⟨x12, hx12, bq, hbq, hO⟩ := HO.out.allocE (.cells #[.string y0, .int .i64 y1, .int .i64 y2, .int .i64 y3, .string y4] 49)
 replace HO := Hi (show Own _ _ _ [_, blkR bq (.cells #[.string y0, .int .i64 y1, .int .i64 y2, .int .i64 y3, .string y4] 49)] from hO)
 clear hO
 obtain ⟨z0_0, z0_1, z0_2, z0_3, z0_4⟩ := HO.out.c5 0 rfl
 obtain ⟨z1_0, z1_1, z1_2, z1_3, z1_4⟩ := HO.out.c5 1 rfl
 cases hk : x1 == y1 with
 | false =>
  have HV := Hi (ahd_k (x := ⟨x0, x1, x2, x3, x4⟩) (y := ⟨y0, y1, y2, y3, y4⟩) hk)
  go_enter Tryz.func74, Tryz.ntmps74
  go_wp2
  go_ret
  exact ⟨by rw [HV.out]; rfl, HO.out.below⟩
 | true =>
  obtain rfl : x1 = y1 := by simpa using hk
  clear hk
  cases ha : x3 == y3 with
  | false =>
   have HV := Hi (ahd_a (x := ⟨x0, x1, x2, x3, x4⟩) (y := ⟨y0, x1, y2, y3, y4⟩) rfl ha)
   go_enter Tryz.func74, Tryz.ntmps74
   go_wp2
   go_ret
   exact ⟨by rw [HV.out]; rfl, HO.out.below⟩
  | true =>
   obtain rfl : x3 = y3 := by simpa using ha
   clear ha
   have HV := Hi (ahd_t (x := ⟨x0, x1, x2, x3, x4⟩) (y := ⟨y0, x1, y2, x3, y4⟩) rfl rfl)
   go_enter Tryz.func74, Tryz.ntmps74
   go_wp2
   go_ret
   exact ⟨by rw [HV.out]; rfl, HO.out.below⟩
theorem ahead_r {x y : Rc} {b : Bool} (h : ahdB x y = b) (w : World) : Calls Tryz.prog 74 #[rcV x, rcV y] w fun e w' => e = .returned (.bool b) ∧ Below w.heap.size w w' := h ▸ ahead_any x y w
theorem leastTo_one (l : List En) : leastTo l 1 = 0 := by
 show (if _ then 0 else 0) = 0
 exact ite_self 0
theorem storeF_at {l : List En} {e : En} {n : Nat} (hn : l.length = n) : (n < 32 → storeF l e = l ++ [e]) ∧ (32 ≤ n → storeF l e = evictF l ++ [e]) := by
 subst hn
 unfold storeF
 exact ⟨fun h => by rw [if_neg (by omega)], fun h => by rw [if_pos h]⟩
theorem keep_o {w0 w : World} {D : Nat → Prop} {L : List Res} {c : Nat} {l : List En} {e : En} (h : Own w0 D w L) (i : Nat) (hi : L[i]? = some (resI c l)) (hl : l.length ≤ 32) :
  Calls Tryz.prog 66 #[.pointer (some ⟨c, 0, none⟩), itV e] w (OPost w0 D (L.set i (resI c (storeF l e))) (.tuple #[]) w) := by
 refine o_one h hi fun D HO0 => ?_
 clear h hi
 obtain ⟨v, hO⟩ := openI' HO0
 clear HO0
 obtain ⟨n, hn⟩ : ∃ n, l.length = n := ⟨_, rfl⟩
 have HN := Hi hn
 have hO : Own w D w [blkI c v, rowR v 141 6 l.length (l.flatMap cIt)] := hO
 rw [hn] at hO hl
 have HSF := Hi (storeF_at (e := e) hn)
 clear hn
 obtain ⟨a, cap, rfl⟩ := row_shape (hO.row 1 rfl)
 obtain ⟨nm, kd, ad, to, ex⟩ := e
 have HO := Hi hO
 clear hO
 obtain ⟨x1, hx1, bi, hbi, hO⟩ := HO.out.allocE (.cells #[.string nm, .int .i64 kd, .int .i64 0, .int .i64 ad, .string to, .int .i64 ex] 141)
 replace HO := Hi (show Own w D x1 [blkR c (.cells #[.slice a n cap] 46), rowR (.slice a n cap) 141 6 n (l.flatMap cIt), blkR bi (.cells #[.string nm, .int .i64 kd, .int .i64 0, .int .i64 ad, .string to, .int .i64 ex] 141)] from hO)
 clear hO
 go_enter Tryz.func66, Tryz.ntmps66
 by_cases h32 : n < 32
 ·
  have hsf := HSF.out.1 h32
  have HE := Hi hsf
  clear hsf HSF
  have hlen : decide ((32 : Int) ≤ (n : Int)) = false := by simp; omega
  have z0_0 : x1.cell? _ = some (.slice a n cap) := HO.out.cell 0 rfl 0 rfl
  go_wp2
  clear hx1 hbi z0_0
  generalize hΓ : ghS w D (apS [blkR c (.cells #[.slice a n cap] 46), rowR (.slice a n cap) 141 6 n (l.flatMap cIt), blkR bi (.cells #[.string nm, .int .i64 kd, .int .i64 0, .int .i64 ad, .string to, .int .i64 ex] 141)] 1 (cIt ⟨nm, kd, ad, to, ex⟩) 141 (fun v' => rowR v' 141 6 (n + 1) (l.flatMap cIt ++ cIt ⟨nm, kd, ad, to, ex⟩))) = Γ
  have HST := Hi (show Γ.inv [] x1 by rw [← hΓ]; exact apS_start HO.out)
  have q0_0 : ∀ q : Γ.Wd, q.w.cell? ⟨c, 0, none⟩ = some (.slice a n cap) := by rw [← hΓ]; exact apS_cell (c := #[.slice a n cap]) (t := 46) 0 rfl (by decide) 0 rfl
  have q2_0 : ∀ q : Γ.Wd, q.w.cell? ⟨bi, 0, none⟩ = some (.string nm) := by rw [← hΓ]; exact apS_cell (c := #[.string nm, .int .i64 kd, .int .i64 0, .int .i64 ad, .string to, .int .i64 ex]) (t := 141) 2 rfl (by decide) 0 rfl
  have q2_1 : ∀ q : Γ.Wd, q.w.cell? ⟨bi, 1, none⟩ = some (.int .i64 kd) := by rw [← hΓ]; exact apS_cell (c := #[.string nm, .int .i64 kd, .int .i64 0, .int .i64 ad, .string to, .int .i64 ex]) (t := 141) 2 rfl (by decide) 1 rfl
  have q2_2 : ∀ q : Γ.Wd, q.w.cell? ⟨bi, 2, none⟩ = some (.int .i64 0) := by rw [← hΓ]; exact apS_cell (c := #[.string nm, .int .i64 kd, .int .i64 0, .int .i64 ad, .string to, .int .i64 ex]) (t := 141) 2 rfl (by decide) 2 rfl
  have q2_3 : ∀ q : Γ.Wd, q.w.cell? ⟨bi, 3, none⟩ = some (.int .i64 ad) := by rw [← hΓ]; exact apS_cell (c := #[.string nm, .int .i64 kd, .int .i64 0, .int .i64 ad, .string to, .int .i64 ex]) (t := 141) 2 rfl (by decide) 3 rfl
  have q2_4 : ∀ q : Γ.Wd, q.w.cell? ⟨bi, 4, none⟩ = some (.string to) := by rw [← hΓ]; exact apS_cell (c := #[.string nm, .int .i64 kd, .int .i64 0, .int .i64 ad, .string to, .int .i64 ex]) (t := 141) 2 rfl (by decide) 4 rfl
  have q2_5 : ∀ q : Γ.Wd, q.w.cell? ⟨bi, 5, none⟩ = some (.int .i64 ex) := by rw [← hΓ]; exact apS_cell (c := #[.string nm, .int .i64 kd, .int .i64 0, .int .i64 ad, .string to, .int .i64 ex]) (t := 141) 2 rfl (by decide) 5 rfl
  have HΓ := Hi hΓ
  clear hΓ
  have ne : Nonempty Γ.Wd := ⟨⟨[], x1, HST.out⟩⟩
  refine wp_region_H Γ 10 [6, 7] (by kernel_rfl) (by kernel_rfl) (by kernel_rfl) (by kernel_rfl) HST.out ?_
  simp only [List.take, List.drop]
  iterate 6 (first | (refine wpH_want (by kernel_rfl) (by kernel_rfl) rfl rfl ?_; intro K hK; go_big_quiet_op; go_big_quiet_on) | (refine wpH_is (by kernel_rfl) (by kernel_rfl) rfl _ (fun _ w _ => rfl) ?_; simp only [Act.put, l_T, l_S, l_Z]))
  refine wpH_chainX 0 (gnth 0) (gnth_lasts _ _) (by kernel_rfl) (by kernel_rfl) (fun a' g hg hgl he => ?_) (fun d hd => ?_)
  ·
   obtain ⟨h25, _⟩ := he
   have h25' : a'.eval (.tmp 63) = .agg #[.string nm, .int .i64 kd, .int .i64 0, .int .i64 ad, .string to, .int .i64 ex] := h25
   refine wp_of_value (v := .slice (some ⟨g.w.heap.size, 0, none⟩) 1 1) (w' := g.w.alloc (.cells #[.string nm, .int .i64 kd, .int .i64 0, .int .i64 ad, .string to, .int .i64 ex] 141)) (run_v_ok ?_) ⟨_, rfl, ?_, ?_⟩
   ·
    simp only [List.map_toArray, List.map_cons, List.map_nil, h25']
    exact run_bsIt _ _ _ _ _ _
   ·
    rw [← HΓ.out] at hg ⊢
    exact apS_build hg hgl
   ·
    have : g.vs = [] := List.eq_nil_of_length_eq_zero hgl
    rw [this]; rfl
  cases hd
  simp only [List.nil_append]
  refine wpH_chainX 1 (gnth 1) (gnth_lasts _ _) (by kernel_rfl) (by kernel_rfl) (fun a' g hg hgl he => ?_) (fun d hd => ?_)
  ·
   obtain ⟨h24, h26, _⟩ := he
   rw [← HΓ.out] at hg ⊢
   exact apS_app (.tmp 62) (.tmp 64) 44 rfl Tryz.underlying44 infoIt rfl (by decide) rfl rfl (oneIt _) (by unfold maxLen; omega) (by omega) hg hgl h24 h26
  cases hd
  simp only [List.cons_append, List.nil_append]
  iterate 2 (first | (refine wpH_want (by kernel_rfl) (by kernel_rfl) rfl rfl ?_; intro K hK; go_big_quiet_op; go_big_quiet_on) | (refine wpH_is (by kernel_rfl) (by kernel_rfl) rfl _ (fun _ w _ => rfl) ?_; simp only [Act.put, l_T, l_S, l_Z]))
  refine wpH_nil (by kernel_rfl) (by simp) ?_
  rintro ⟨vs, x5⟩ hg hgl
  rw [← HΓ.out] at hg
  obtain ⟨s, v, hvs, hO⟩ := apS_end hg hgl
  obtain rfl : vs = [s, v] := hvs
  simp only [gexAll]
  rintro u64 - u65 hu65
  obtain rfl : v = u65 := by simpa [gnth] using hu65
  simp only [List.drop]
  clear ne HST hg hgl HΓ hu65 q0_0 q2_0 q2_1 q2_2 q2_3 q2_4 q2_5
  replace HO := Hi (show Own _ _ _ [_, rowR v 141 6 (n + 1) (l.flatMap cIt ++ cIt ⟨nm, kd, ad, to, ex⟩), _] from hO)
  clear hO
  obtain ⟨va, vc, rfl⟩ := row_shape (HO.out.row 1 rfl)
  obtain ⟨vn, hvn⟩ : ∃ y, n + 1 = y := ⟨_, rfl⟩
  have HVN := Hi hvn
  rw [hvn] at HO ⊢
  clear hvn
  have ⟨z0_0, y0_0⟩ : x5.cell? _ = some (.slice a n cap) ∧ _ := HO.out.cf 0 rfl 0 rfl
  obtain ⟨x91, hx91, hO⟩ := HO.out.setE 0 rfl 0 (.slice va vn vc)
  replace HO := Hi (show Own _ _ _ [blkR c (.cells #[.slice va vn vc] 46), rowR (.slice va vn vc) 141 6 vn (l.flatMap cIt ++ cIt ⟨nm, kd, ad, to, ex⟩), _] from hO)
  clear hO
  go_wp2
  have hO := HO.out.take 2
  have hO2 : Own w D x91 [blkI c (.slice va vn vc), rowIt (.slice va vn vc) (storeF l ⟨nm, kd, ad, to, ex⟩)] := by
   rw [HE.out]
   show Own w D x91 [blkI c (.slice va vn vc), rowR (.slice va vn vc) _ 6 _ _]
   rw [List.flatMap_append, List.length_append, List.flatMap_cons, List.flatMap_nil, List.append_nil, List.length_singleton, HN.out, HVN.out]
   exact hO
  refine bodyPost_ret (results_none rfl _ _ _) rfl ?_
  exact ⟨rfl, shutI' hO2, hO2.size⟩
 ·
  obtain rfl : n = 32 := by omega
  have hsf := HSF.out.2 (by omega)
  have HE := Hi hsf
  clear hsf HSF
  obtain ⟨g, rfl⟩ := row_some (HO.out.row 1 rfl) (by omega)
  have HLL := Hi (leastTo_lt (l := l) (by have := HN.out; omega))
  have z0_0 : x1.cell? _ = some (.slice (some ⟨g, 0, none⟩) 32 cap) := HO.out.cell 0 rfl 0 rfl
  go_wp2
  clear hx1 hbi z0_0
  go_loopw [4, 5] (fun lv kv wr => ∃ k : Nat, 1 ≤ k ∧ k ≤ 32 ∧ lv = .int .i64 (leastTo l k : Nat) ∧ kv = .int .i64 k ∧ Own w D wr [blkR c (.cells #[.slice (some ⟨g, 0, none⟩) 32 cap] 46), rowR (.slice (some ⟨g, 0, none⟩) 32 cap) 141 6 32 (l.flatMap cIt), blkR bi (.cells #[.string nm, .int .i64 kd, .int .i64 0, .int .i64 ad, .string to, .int .i64 ex] 141)]) (fun _ kv _ => 32 - (intOf kv).toNat)
  case atStart => exact ⟨1, Nat.le_refl _, by decide, by rw [leastTo_one]; rfl, rfl, HO.out⟩
  case round =>
   obtain ⟨k, hk1, hk, rfl, rfl, hO⟩ := hrel
   replace HO := Hi hO
   clear hO
   have hlt2 : leastTo l k < 32 := by have := HLL.out k (by have := HN.out; omega); have := HN.out; omega
   have HLS := Hi (show leastTo l (k + 1) = if (l.getD k ⟨⟨#[]⟩, 0, 0, ⟨#[]⟩, 0⟩).ex < (l.getD (leastTo l k) ⟨⟨#[]⟩, 0, 0, ⟨#[]⟩, 0⟩).ex then k else leastTo l k from rfl)
   by_cases hlt : k < 32
   ·
    obtain ⟨q, hq⟩ : ∃ q, leastTo l k = q := ⟨_, rfl⟩
    rw [hq] at HLS hlt2 ⊢
    clear hq
    have hrw := HO.out.row 1 rfl
    have hkl : k < l.length := by have := HN.out; omega
    have hql : q < l.length := by have := HN.out; omega
    rw [getD_eq hkl, getD_eq hql] at HLS
    have c1 : wr.cell? _ = some (.slice (some ⟨g, 0, none⟩) 32 cap) := HO.out.cell 0 rfl 0 rfl
    have yk : wr.cell? ⟨g, k * 6 + 5, none⟩ = some (.int .i64 l[k].ex) := (row_cells hrw).1 _ _ (by rw [flat_getR cIt 6 (fun _ => rfl) l k hkl 5 (by decide)]; rfl)
    have yq : wr.cell? ⟨g, q * 6 + 5, none⟩ = some (.int .i64 l[q].ex) := (row_cells hrw).1 _ _ (by rw [flat_getR cIt 6 (fun _ => rfl) l q hql 5 (by decide)]; rfl)
    generalize l[q].ex = qx at *
    generalize l[k].ex = kx at *
    clear hrw hkl hql
    have g1 := cell_regrown c1
    have gk := cell_regrown yk
    have gq := cell_regrown yq
    go_wp2
    refine wp_region_B (by kernel_rfl) (by kernel_rfl) ?_
    repeat (go_big_quiet_step (fail))
    refine wpQuiet_nil ?_
    intro x91 hbw
    have hO := HO.out.stay hbw
    clear g1 gk gq c1 yk yq
    replace HO := Hi (show Own _ _ _ [blkR c (.cells #[.slice (some ⟨g, 0, none⟩) 32 cap] 46), rowR (.slice (some ⟨g, 0, none⟩) 32 cap) 141 6 32 (l.flatMap cIt), _] from hO)
    clear hO hbw
    by_cases hd : kx < qx
    ·
     rw [if_pos hd] at HLS
     go_wp2
     go_roundw
     case rel => exact ⟨k + 1, by omega, by omega, by rw [HLS.out], by go_num, HO.out⟩
     case measure => simp [intOf]; omega
    ·
     rw [if_neg hd] at HLS
     replace hd : qx ≤ kx := by omega
     go_wp2
     go_roundw
     case rel => exact ⟨k + 1, by omega, by omega, by rw [HLS.out], by go_num, HO.out⟩
     case measure => simp [intOf]; omega
   ·
    obtain rfl : k = 32 := by omega
    clear HLS
    have HEV := Hi (show evictF l = l.eraseIdx (leastTo l 32) by unfold evictF; rw [HN.out])
    obtain ⟨q, hq⟩ : ∃ q, leastTo l 32 = q := ⟨_, rfl⟩
    rw [hq] at HEV hlt2 ⊢
    clear hq
    have HXL := Hi (show (l.flatMap cIt).length = 32 * 6 from (HO.out.row 1 rfl).1)
    obtain ⟨u1, hu1, hr1⟩ := row_upto (P := Tryz.prog) 44 elemIt sizeIt (HO.out.row 1 rfl) q (by omega)
    obtain ⟨u2, hu2, hr2⟩ := row_from (P := Tryz.prog) 44 elemIt sizeIt (HO.out.row 1 rfl) (q + 1) (by omega)
    have HU1 := Hi hu1
    have HU2 := Hi hu2
    have HR1 := Hi hr1
    have HR2 := Hi hr2
    clear hu1 hu2 hr1 hr2
    have z0_0 : wr.cell? _ = some (.slice (some ⟨g, 0, none⟩) 32 cap) := HO.out.cell 0 rfl 0 rfl
    go_wp2
    clear z0_0
    generalize hΓ : ghA w D [blkR c (.cells #[.slice (some ⟨g, 0, none⟩) 32 cap] 46), rowR (.slice (some ⟨g, 0, none⟩) 32 cap) 141 6 32 (l.flatMap cIt), blkR bi (.cells #[.string nm, .int .i64 kd, .int .i64 0, .int .i64 ad, .string to, .int .i64 ex] 141)] 141 6 (.slice none 0 0) [(0, []), (0, []), (0 + q, [] ++ (l.flatMap cIt).take (q * 6)), (0 + q + (32 - (q + 1)), [] ++ (l.flatMap cIt).take (q * 6) ++ (l.flatMap cIt).drop ((q + 1) * 6))] = Γ
    have HST := Hi (show Γ.inv [] wr by rw [← hΓ]; exact ghA_start (HO.out.rowNew 141 6))
    have q0_0 : ∀ q : Γ.Wd, q.w.cell? ⟨c, 0, none⟩ = some (.slice (some ⟨g, 0, none⟩) 32 cap) := by rw [← hΓ]; exact ghA_cell (c := #[.slice (some ⟨g, 0, none⟩) 32 cap]) (t := 46) 0 rfl 0 rfl
    have HΓ := Hi hΓ
    clear hΓ
    have ne : Nonempty Γ.Wd := ⟨⟨[], wr, HST.out⟩⟩
    refine wp_region_H Γ 19 [1, 8, 16] (by kernel_rfl) (by kernel_rfl) (by kernel_rfl) (by kernel_rfl) HST.out ?_
    simp only [List.take, List.drop]
    iterate 1 (first | (refine wpH_want (by kernel_rfl) (by kernel_rfl) rfl rfl ?_; intro K hK; go_big_quiet_op; go_big_quiet_on) | (refine wpH_is (by kernel_rfl) (by kernel_rfl) rfl _ (fun _ w _ => rfl) ?_; simp only [Act.put, l_T, l_S, l_Z]))
    refine wpH_chainX 0 (gnth 0) (gnth_lasts _ _) (by kernel_rfl) (by kernel_rfl) (fun a' g hg hgl he => ?_) (fun d hd => ?_)
    ·
     refine wp_of_value (v := .slice (some ⟨g.w.heap.size, 0, none⟩) 0 0) (w' := g.w.alloc (.cells #[] 141)) (run_v_ok (by simp only [List.map_toArray, List.map_nil]; exact run_bsIt0 _)) ⟨_, rfl, ?_, ?_⟩
     ·
      rw [← HΓ.out] at hg ⊢
      exact ghA_lit hg hgl
     ·
      have : g.vs = [] := List.eq_nil_of_length_eq_zero hgl
      rw [this]; rfl
    cases hd
    simp only [List.nil_append]
    iterate 5 (first | (refine wpH_want (by kernel_rfl) (by kernel_rfl) rfl rfl ?_; intro K hK; go_big_quiet_op; go_big_quiet_on) | (refine wpH_is (by kernel_rfl) (by kernel_rfl) rfl _ (fun _ w _ => rfl) ?_; simp only [Act.put, l_T, l_S, l_Z]))
    refine wpH_is (by kernel_rfl) (by kernel_rfl) rfl (u1) (fun _ w _ => run_v_ok (HU1.out w)) ?_
    simp only [Act.put, l_T, l_S, l_Z]
    refine wpH_chainX 1 (gnth 1) (gnth_lasts _ _) (by kernel_rfl) (by kernel_rfl) (fun a' g hg hgl he => ?_) (fun d hd => ?_)
    ·
     obtain ⟨hs, hx, _⟩ := he
     rw [← HΓ.out] at hg ⊢
     have hs' : a'.eval (.tmp 40) = g.vs.getLastD (.slice none 0 0) := (ghA_last (k := 0) (vs := g.vs) (w := g.w) hs hgl).symm
     have hR : Reads g.w (a'.eval (.tmp 46)) q ((l.flatMap cIt).take (q * 6)) := by
      have hx' : a'.eval (.tmp 46) = u1 := hx
      rw [hx']
      exact HR1.out g.w _ ((ghA_rest hg).row 1 rfl)
     exact ghA_app 1 (.tmp 40) (.tmp 46) 44 rfl Tryz.underlying44 infoIt rfl (by decide) rfl rfl (by have := HXL.out; rw [List.length_take]; omega) (fun u hu => cIt_one l u (List.mem_of_mem_take hu)) (by unfold maxLen; omega) (by omega) hg hgl hs' hR
    cases hd
    simp only [List.cons_append, List.nil_append]
    iterate 6 (first | (refine wpH_want (by kernel_rfl) (by kernel_rfl) rfl rfl ?_; intro K hK; go_big_quiet_op; go_big_quiet_on) | (refine wpH_is (by kernel_rfl) (by kernel_rfl) rfl _ (fun _ w _ => rfl) ?_; simp only [Act.put, l_T, l_S, l_Z]))
    refine wpH_is (by kernel_rfl) (by kernel_rfl) rfl (u2) (fun _ w _ => run_v_ok (HU2.out w)) ?_
    simp only [Act.put, l_T, l_S, l_Z]
    refine wpH_chainX 2 (gnth 2) (gnth_lasts _ _) (by kernel_rfl) (by kernel_rfl) (fun a' g hg hgl he => ?_) (fun d hd => ?_)
    ·
     obtain ⟨hs, hx, _⟩ := he
     rw [← HΓ.out] at hg ⊢
     have hs' : a'.eval (.tmp 47) = g.vs.getLastD (.slice none 0 0) := (ghA_last (k := 1) (vs := g.vs) (w := g.w) hs hgl).symm
     have hR : Reads g.w (a'.eval (.tmp 54)) (32 - (q + 1)) ((l.flatMap cIt).drop ((q + 1) * 6)) := by
      have hx' : a'.eval (.tmp 54) = u2 := hx
      rw [hx']
      exact HR2.out g.w _ ((ghA_rest hg).row 1 rfl)
     exact ghA_app 2 (.tmp 47) (.tmp 54) 44 rfl Tryz.underlying44 infoIt rfl (by decide) rfl rfl (by have := HXL.out; rw [List.length_drop]; omega) (fun u hu => cIt_one l u (List.mem_of_mem_drop hu)) (by unfold maxLen; omega) (by omega) hg hgl hs' hR
    cases hd
    simp only [List.cons_append, List.nil_append]
    iterate 2 (first | (refine wpH_want (by kernel_rfl) (by kernel_rfl) rfl rfl ?_; intro K hK; go_big_quiet_op; go_big_quiet_on) | (refine wpH_is (by kernel_rfl) (by kernel_rfl) rfl _ (fun _ w _ => rfl) ?_; simp only [Act.put, l_T, l_S, l_Z]))
    refine wpH_nil (by kernel_rfl) (by simp) ?_
    rintro ⟨vs, x6⟩ hg hgl
    rw [← HΓ.out] at hg
    simp only [gexAll, List.drop]
    rintro u40 -
    rintro u47 -
    rintro u55 hlast
    simp only [Act.put, l_T, l_S, l_Z]
    have hO := ghA_at hg 3 hgl rfl
    rw [ghA_last (k := 2) hlast hgl] at hO
    simp only [List.cons_append, List.nil_append] at hO
    replace HO := Hi (show Own _ _ _ [_, _, _, rowR u55 141 6 (0 + q + (32 - (q + 1))) ([] ++ (l.flatMap cIt).take (q * 6) ++ (l.flatMap cIt).drop ((q + 1) * 6))] from hO)
    clear q0_0 ne HST hg hgl HΓ hlast hO
    have e1 : 0 + q + (32 - (q + 1)) = 31 := by omega
    have e2 : [] ++ (l.flatMap cIt).take (q * 6) ++ (l.flatMap cIt).drop ((q + 1) * 6) = (evictF l).flatMap cIt := by rw [HEV.out, erase_flatK cIt 6 (fun _ => rfl), List.nil_append]
    have hO := HO.out
    rw [e1, e2] at hO
    have hEL : (evictF l).length = 31 := by rw [HEV.out, List.length_eraseIdx, if_pos (by have := HN.out; omega)]; have := HN.out; omega
    have HEL := Hi hEL
    clear e1 e2 hEL HO
    obtain ⟨a3, cap3, rfl⟩ := row_shape (hO.row 3 rfl)
    have HO := Hi hO
    clear hO
    have ⟨z0_0, y0_0⟩ : x6.cell? _ = some (.slice (some ⟨g, 0, none⟩) 32 cap) ∧ _ := HO.out.cf 0 rfl 0 rfl
    obtain ⟨x61, hx61, hO⟩ := HO.out.setE 0 rfl 0 (.slice a3 31 cap3)
    replace HO := Hi (show Own _ _ _ [blkR c (.cells #[.slice a3 31 cap3] 46), _, _, rowR (.slice a3 31 cap3) 141 6 31 ((evictF l).flatMap cIt)] from hO)
    clear hO
    go_wp2
    clear z0_0 y0_0 hx61
    have hO2 := HO.out.pick [0, 3, 2] (by decide) (L' := [blkR c (.cells #[.slice a3 31 cap3] 46), rowR (.slice a3 31 cap3) 141 6 31 ((evictF l).flatMap cIt), blkR bi (.cells #[.string nm, .int .i64 kd, .int .i64 0, .int .i64 ad, .string to, .int .i64 ex] 141)]) (fun k R hk => by
     match k, hk with
     | 0, hk => exact ⟨0, rfl, hk⟩
     | 1, hk => exact ⟨3, rfl, hk⟩
     | 2, hk => exact ⟨2, rfl, hk⟩)
    replace HO := Hi (show Own w D x61 [blkR c (.cells #[.slice a3 31 cap3] 46), rowR (.slice a3 31 cap3) 141 6 31 ((evictF l).flatMap cIt), blkR bi (.cells #[.string nm, .int .i64 kd, .int .i64 0, .int .i64 ad, .string to, .int .i64 ex] 141)] from hO2)
    clear hO2
    have z0_0 : x61.cell? _ = some (.slice a3 31 cap3) := HO.out.cell 0 rfl 0 rfl
    go_wp2
    clear z0_0
    generalize hΓ : ghS w D (apS [blkR c (.cells #[.slice a3 31 cap3] 46), rowR (.slice a3 31 cap3) 141 6 31 ((evictF l).flatMap cIt), blkR bi (.cells #[.string nm, .int .i64 kd, .int .i64 0, .int .i64 ad, .string to, .int .i64 ex] 141)] 1 (cIt ⟨nm, kd, ad, to, ex⟩) 141 (fun v' => rowR v' 141 6 (31 + 1) ((evictF l).flatMap cIt ++ cIt ⟨nm, kd, ad, to, ex⟩))) = Γ
    have HST := Hi (show Γ.inv [] x61 by rw [← hΓ]; exact apS_start HO.out)
    have q0_0 : ∀ q : Γ.Wd, q.w.cell? ⟨c, 0, none⟩ = some (.slice a3 31 cap3) := by rw [← hΓ]; exact apS_cell (c := #[.slice a3 31 cap3]) (t := 46) 0 rfl (by decide) 0 rfl
    have q2_0 : ∀ q : Γ.Wd, q.w.cell? ⟨bi, 0, none⟩ = some (.string nm) := by rw [← hΓ]; exact apS_cell (c := #[.string nm, .int .i64 kd, .int .i64 0, .int .i64 ad, .string to, .int .i64 ex]) (t := 141) 2 rfl (by decide) 0 rfl
    have q2_1 : ∀ q : Γ.Wd, q.w.cell? ⟨bi, 1, none⟩ = some (.int .i64 kd) := by rw [← hΓ]; exact apS_cell (c := #[.string nm, .int .i64 kd, .int .i64 0, .int .i64 ad, .string to, .int .i64 ex]) (t := 141) 2 rfl (by decide) 1 rfl
    have q2_2 : ∀ q : Γ.Wd, q.w.cell? ⟨bi, 2, none⟩ = some (.int .i64 0) := by rw [← hΓ]; exact apS_cell (c := #[.string nm, .int .i64 kd, .int .i64 0, .int .i64 ad, .string to, .int .i64 ex]) (t := 141) 2 rfl (by decide) 2 rfl
    have q2_3 : ∀ q : Γ.Wd, q.w.cell? ⟨bi, 3, none⟩ = some (.int .i64 ad) := by rw [← hΓ]; exact apS_cell (c := #[.string nm, .int .i64 kd, .int .i64 0, .int .i64 ad, .string to, .int .i64 ex]) (t := 141) 2 rfl (by decide) 3 rfl
    have q2_4 : ∀ q : Γ.Wd, q.w.cell? ⟨bi, 4, none⟩ = some (.string to) := by rw [← hΓ]; exact apS_cell (c := #[.string nm, .int .i64 kd, .int .i64 0, .int .i64 ad, .string to, .int .i64 ex]) (t := 141) 2 rfl (by decide) 4 rfl
    have q2_5 : ∀ q : Γ.Wd, q.w.cell? ⟨bi, 5, none⟩ = some (.int .i64 ex) := by rw [← hΓ]; exact apS_cell (c := #[.string nm, .int .i64 kd, .int .i64 0, .int .i64 ad, .string to, .int .i64 ex]) (t := 141) 2 rfl (by decide) 5 rfl
    have HΓ := Hi hΓ
    clear hΓ
    have ne : Nonempty Γ.Wd := ⟨⟨[], x61, HST.out⟩⟩
    refine wp_region_H Γ 10 [6, 7] (by kernel_rfl) (by kernel_rfl) (by kernel_rfl) (by kernel_rfl) HST.out ?_
    simp only [List.take, List.drop]
    iterate 6 (first | (refine wpH_want (by kernel_rfl) (by kernel_rfl) rfl rfl ?_; intro K hK; go_big_quiet_op; go_big_quiet_on) | (refine wpH_is (by kernel_rfl) (by kernel_rfl) rfl _ (fun _ w _ => rfl) ?_; simp only [Act.put, l_T, l_S, l_Z]))
    refine wpH_chainX 0 (gnth 0) (gnth_lasts _ _) (by kernel_rfl) (by kernel_rfl) (fun a' g hg hgl he => ?_) (fun d hd => ?_)
    ·
     obtain ⟨h25, _⟩ := he
     have h25' : a'.eval (.tmp 63) = .agg #[.string nm, .int .i64 kd, .int .i64 0, .int .i64 ad, .string to, .int .i64 ex] := h25
     refine wp_of_value (v := .slice (some ⟨g.w.heap.size, 0, none⟩) 1 1) (w' := g.w.alloc (.cells #[.string nm, .int .i64 kd, .int .i64 0, .int .i64 ad, .string to, .int .i64 ex] 141)) (run_v_ok ?_) ⟨_, rfl, ?_, ?_⟩
     ·
      simp only [List.map_toArray, List.map_cons, List.map_nil, h25']
      exact run_bsIt _ _ _ _ _ _
     ·
      rw [← HΓ.out] at hg ⊢
      exact apS_build hg hgl
     ·
      have : g.vs = [] := List.eq_nil_of_length_eq_zero hgl
      rw [this]; rfl
    cases hd
    simp only [List.nil_append]
    refine wpH_chainX 1 (gnth 1) (gnth_lasts _ _) (by kernel_rfl) (by kernel_rfl) (fun a' g hg hgl he => ?_) (fun d hd => ?_)
    ·
     obtain ⟨h24, h26, _⟩ := he
     rw [← HΓ.out] at hg ⊢
     exact apS_app (.tmp 62) (.tmp 64) 44 rfl Tryz.underlying44 infoIt rfl (by decide) rfl rfl (oneIt _) (by unfold maxLen; omega) (by omega) hg hgl h24 h26
    cases hd
    simp only [List.cons_append, List.nil_append]
    iterate 2 (first | (refine wpH_want (by kernel_rfl) (by kernel_rfl) rfl rfl ?_; intro K hK; go_big_quiet_op; go_big_quiet_on) | (refine wpH_is (by kernel_rfl) (by kernel_rfl) rfl _ (fun _ w _ => rfl) ?_; simp only [Act.put, l_T, l_S, l_Z]))
    refine wpH_nil (by kernel_rfl) (by simp) ?_
    rintro ⟨vs, x5⟩ hg hgl
    rw [← HΓ.out] at hg
    obtain ⟨s, v, hvs, hO⟩ := apS_end hg hgl
    obtain rfl : vs = [s, v] := hvs
    simp only [gexAll]
    rintro u64 - u65 hu65
    obtain rfl : v = u65 := by simpa [gnth] using hu65
    simp only [List.drop]
    clear ne HST hg hgl HΓ hu65 q0_0 q2_0 q2_1 q2_2 q2_3 q2_4 q2_5
    replace HO := Hi (show Own _ _ _ [_, rowR v 141 6 (31 + 1) ((evictF l).flatMap cIt ++ cIt ⟨nm, kd, ad, to, ex⟩), _] from hO)
    clear hO
    obtain ⟨va, vc, rfl⟩ := row_shape (HO.out.row 1 rfl)
    obtain ⟨vn, hvn⟩ : ∃ y, 31 + 1 = y := ⟨_, rfl⟩
    have HVN := Hi hvn
    rw [hvn] at HO ⊢
    clear hvn
    have ⟨z0_0, y0_0⟩ : x5.cell? _ = some (.slice a3 31 cap3) ∧ _ := HO.out.cf 0 rfl 0 rfl
    obtain ⟨x91, hx91, hO⟩ := HO.out.setE 0 rfl 0 (.slice va vn vc)
    replace HO := Hi (show Own _ _ _ [blkR c (.cells #[.slice va vn vc] 46), rowR (.slice va vn vc) 141 6 vn ((evictF l).flatMap cIt ++ cIt ⟨nm, kd, ad, to, ex⟩), _] from hO)
    clear hO
    go_wp2
    have hO := HO.out.take 2
    have hO2 : Own w D x91 [blkI c (.slice va vn vc), rowIt (.slice va vn vc) (storeF l ⟨nm, kd, ad, to, ex⟩)] := by
     rw [HE.out]
     show Own w D x91 [blkI c (.slice va vn vc), rowR (.slice va vn vc) _ 6 _ _]
     rw [List.flatMap_append, List.length_append, List.flatMap_cons, List.flatMap_nil, List.append_nil, List.length_singleton, HEL.out, HVN.out]
     exact hO
    refine bodyPost_ret (results_none rfl _ _ _) rfl ?_
    exact ⟨rfl, shutI' hO2, hO2.size⟩

end Go.Proofs.YtbolfkojebbejaaGreatDoor

namespace Go.Proofs.YtbolfkojebbejaaGreatDoor
open Go.RowKit Go.Sort

theorem filt_yes {α : Type} {l : List α} {k : Nat} {p : α → Bool} (hk : k < l.length) (h : p l[k] = true) : (l.take (k + 1)).filter p = (l.take k).filter p ++ [l[k]] := by
 rw [List.take_succ_eq_append_getElem hk, List.filter_append]; simp [h]
theorem filt_no {α : Type} {l : List α} {k : Nat} {p : α → Bool} (hk : k < l.length) (h : p l[k] = false) : (l.take (k + 1)).filter p = (l.take k).filter p := by
 rw [List.take_succ_eq_append_getElem hk, List.filter_append]; simp [h]
theorem filt_tk {α : Type} (l : List α) (k : Nat) (p : α → Bool) : ((l.take k).filter p).length ≤ k := by
 have := List.length_filter_le p (l.take k)
 rw [List.length_take] at this; omega
def refP (r : Rc) (x : En) : Bool := ((x.kd == 0) && (x.nm.toList == r.nm.toList)) || rcEq ⟨x.nm, x.kd, 0, x.ad, x.to⟩ ⟨r.nm, r.kd, 0, r.ad, r.to⟩
def putRF (now : Int) (r : Rc) (l : List En) : List En := if recB now r && decide (r.tt ≠ 0) then storeF (l.filter fun x => !refP r x) ⟨r.nm, r.kd, r.ad, r.to, now + r.tt⟩ else l
theorem run_bIt (nm : ByteArray) (kd tt ad : Int) (to : ByteArray) (ex : Int) (w : World) : (Instr.build 141 #[(0, .agg #[.string nm, .int .i64 kd, .int .i64 tt, .int .i64 ad, .string to]), (1, .int .i64 ex)]).run Tryz.prog w = .ok (.agg #[.string nm, .int .i64 kd, .int .i64 tt, .int .i64 ad, .string to, .int .i64 ex]) w := by kernel_rfl
theorem run_bRn (nm : ByteArray) (w : World) : (Instr.build 49 #[(0, .string nm)]).run Tryz.prog w = .ok (.agg #[.string nm, .int .i64 0, .int .i64 0, .int .i64 0, .string ⟨#[]⟩]) w := by kernel_rfl
section
attribute [local go_sem ↓] run_bsIt run_neRc run_bIt run_bRn
theorem place2 {w0 w : World} {D : Nat → Prop} {A B C : Res} {L : List Res} (h : Own w0 D w (A :: B :: (L ++ [C]))) : Own w0 D w (A :: B :: C :: L) := by
 have hp := h.pick (0 :: 1 :: (2 + L.length) :: (List.range L.length).map (· + 2)) (L' := A :: B :: C :: L) (by
   rw [List.nodup_cons, List.nodup_cons, List.nodup_cons]
   refine ⟨by simp; omega, by simp; omega, by simp; omega, ?_⟩
   exact List.Pairwise.map _ (fun a b hab => by omega) List.nodup_range) (fun k R hk => by
  match k, hk with
  | 0, hk => exact ⟨0, rfl, hk⟩
  | 1, hk => exact ⟨1, rfl, hk⟩
  | 2, hk => cases hk; exact ⟨2 + L.length, rfl, by rw [Nat.add_comm]; simp⟩
  | k + 3, hk =>
   have hk : L[k]? = some R := hk
   have hkl := get_len hk
   refine ⟨k + 2, by simp [hkl], ?_⟩
   show (L ++ [C])[k]? = some R
   rw [List.getElem?_append_left hkl]; exact hk)
 exact hp
theorem rowNew2 {w0 w : World} {D : Nat → Prop} {A B : Res} {L : List Res} (h : Own w0 D w (A :: B :: L)) (E : TypeId) (sz : Nat) : Own w0 D w (A :: B :: rowR (.slice none 0 0) E sz 0 [] :: L) := place2 (by have := h.rowNew E sz; simpa using this)
theorem ineg_1 {w0 w : World} {D : Nat → Prop} {L : List Res} {c : Nat} {l : List En} (now : Int) (nm0 : ByteArray) (tt0 : Int) (h : Own w0 D w L) (i : Nat) (hi : L[i]? = some (resI c l)) (hl : l.length ≤ 32) (hv : vname nm0 = false) :
  Calls Tryz.prog 22 #[.pointer (some ⟨c, 0, none⟩), .int .i64 now, .string nm0, .int .i64 tt0] w (OPost w0 D (L.set i (resI c l)) (.int .i64 200) w) := by
 refine o_one h hi fun D HO0 => ?_
 clear h hi
 have HO := Hi HO0
 clear HO0
 have HV := Hi hv
 clear hv
 go_enter Tryz.func22, Tryz.ntmps22
 go_wp2_with fail
 refine (o_still HO.out (vn19_r HV.out _)).mono ?_
 rintro e x1 ⟨rfl, hO, -⟩
 replace HO := Hi (show Own w D x1 [resI c l] from hO)
 clear hO
 go_wp2
 go_ret
 exact ⟨rfl, HO.out, HO.out.size⟩
theorem ineg_2 {w0 w : World} {D : Nat → Prop} {L : List Res} {c : Nat} {l : List En} (now : Int) (nm0 : ByteArray) (tt0 : Int) (h : Own w0 D w L) (i : Nat) (hi : L[i]? = some (resI c l)) (hl : l.length ≤ 32) (hv : vname nm0 = true) (h0 : tt0 < 0) :
  Calls Tryz.prog 22 #[.pointer (some ⟨c, 0, none⟩), .int .i64 now, .string nm0, .int .i64 tt0] w (OPost w0 D (L.set i (resI c l)) (.int .i64 200) w) := by
 refine o_one h hi fun D HO0 => ?_
 clear h hi
 have HO := Hi HO0
 clear HO0
 have HV := Hi hv
 clear hv
 go_enter Tryz.func22, Tryz.ntmps22
 go_wp2_with fail
 refine (o_still HO.out (vn19_r HV.out _)).mono ?_
 rintro e x1 ⟨rfl, hO, -⟩
 replace HO := Hi (show Own w D x1 [resI c l] from hO)
 clear hO
 go_wp2
 go_ret
 exact ⟨rfl, HO.out, HO.out.size⟩
theorem ineg_3 {w0 w : World} {D : Nat → Prop} {L : List Res} {c : Nat} {l : List En} (now : Int) (nm0 : ByteArray) (tt0 : Int) (h : Own w0 D w L) (i : Nat) (hi : L[i]? = some (resI c l)) (hl : l.length ≤ 32) (hv : vname nm0 = true) (h0 : ¬ tt0 < 0) (h9 : 1000 < tt0) :
  Calls Tryz.prog 22 #[.pointer (some ⟨c, 0, none⟩), .int .i64 now, .string nm0, .int .i64 tt0] w (OPost w0 D (L.set i (resI c l)) (.int .i64 200) w) := by
 refine o_one h hi fun D HO0 => ?_
 clear h hi
 have HO := Hi HO0
 clear HO0
 have HV := Hi hv
 clear hv
 go_enter Tryz.func22, Tryz.ntmps22
 go_wp2_with fail
 refine (o_still HO.out (vn19_r HV.out _)).mono ?_
 rintro e x1 ⟨rfl, hO, -⟩
 replace HO := Hi (show Own w D x1 [resI c l] from hO)
 clear hO
 go_wp2
 go_ret
 exact ⟨rfl, HO.out, HO.out.size⟩
theorem ineg_4 {w0 w : World} {D : Nat → Prop} {L : List Res} {c : Nat} {l : List En} (now : Int) (nm0 : ByteArray) (tt0 : Int) (h : Own w0 D w L) (i : Nat) (hi : L[i]? = some (resI c l)) (hl : l.length ≤ 32) (hv : vname nm0 = true) (h0 : ¬ tt0 < 0) (h9 : ¬ 1000 < tt0) (ht : timB now = false) :
  Calls Tryz.prog 22 #[.pointer (some ⟨c, 0, none⟩), .int .i64 now, .string nm0, .int .i64 tt0] w (OPost w0 D (L.set i (resI c l)) (.int .i64 200) w) := by
 refine o_one h hi fun D HO0 => ?_
 clear h hi
 have HO := Hi HO0
 clear HO0
 have HV := Hi hv
 clear hv
 have HT := Hi ht
 clear ht
 go_enter Tryz.func22, Tryz.ntmps22
 go_wp2_with fail
 refine (o_still HO.out (vn19_r HV.out _)).mono ?_
 rintro e x1 ⟨rfl, hO, -⟩
 replace HO := Hi (show Own w D x1 [resI c l] from hO)
 clear hO
 go_wp2_with fail
 refine (time_r HT.out _).mono ?_
 rintro e xp ⟨rfl, rfl⟩
 go_wp2
 go_ret
 exact ⟨rfl, HO.out, HO.out.size⟩
theorem ineg_5 {w0 w : World} {D : Nat → Prop} {L : List Res} {c : Nat} {l : List En} (now : Int) (nm0 : ByteArray) (tt0 : Int) (h : Own w0 D w L) (i : Nat) (hi : L[i]? = some (resI c l)) (hl : l.length ≤ 32) (hv : vname nm0 = true) (hz : tt0 = 0) (ht : timB now = true) :
  Calls Tryz.prog 22 #[.pointer (some ⟨c, 0, none⟩), .int .i64 now, .string nm0, .int .i64 tt0] w (OPost w0 D (L.set i (resI c l)) (.int .i64 0) w) := by
 refine o_one h hi fun D HO0 => ?_
 clear h hi
 have HO := Hi HO0
 clear HO0
 have HV := Hi hv
 clear hv
 have HT := Hi ht
 clear ht
 subst hz
 go_enter Tryz.func22, Tryz.ntmps22
 go_wp2_with fail
 refine (o_still HO.out (vn19_r HV.out _)).mono ?_
 rintro e x1 ⟨rfl, hO, -⟩
 replace HO := Hi (show Own w D x1 [resI c l] from hO)
 clear hO
 go_wp2_with fail
 refine (time_r HT.out _).mono ?_
 rintro e xp ⟨rfl, rfl⟩
 go_wp2
 go_ret
 exact ⟨rfl, HO.out, HO.out.size⟩
theorem ineg_6 {w0 w : World} {D : Nat → Prop} {L : List Res} {c : Nat} {l : List En} (now : Int) (nm0 : ByteArray) (tt0 : Int) (h : Own w0 D w L) (i : Nat) (hi : L[i]? = some (resI c l)) (hl : l.length ≤ 32) (hv : vname nm0 = true) (h0 : ¬ tt0 < 0) (h9 : ¬ 1000 < tt0) (ht : timB now = true) (hz : tt0 ≠ 0) :
  Calls Tryz.prog 22 #[.pointer (some ⟨c, 0, none⟩), .int .i64 now, .string nm0, .int .i64 tt0] w (OPost w0 D (L.set i (resI c (storeF (l.filter (fun x => !negP nm0 x)) ⟨nm0, 0, 0, ⟨#[]⟩, now + tt0⟩))) (.int .i64 0) w) := by
 refine o_one h hi fun D HO0 => ?_
 clear h hi
 obtain ⟨v, hO⟩ := openI' HO0
 clear HO0
 obtain ⟨n, hn⟩ : ∃ n, l.length = n := ⟨_, rfl⟩
 have HN := Hi hn
 have hO : Own w D w [blkI c v, rowR v 141 6 l.length (l.flatMap cIt)] := hO
 rw [hn] at hO hl
 clear hn
 obtain ⟨a, cap, rfl⟩ := row_shape (hO.row 1 rfl)
 have HO := Hi hO
 clear hO
 have HV := Hi hv
 have htn : 0 ≤ now ∧ now ≤ 1000000000 := by simpa [timB] using ht
 obtain ⟨t1, t2⟩ := htn
 have HT := Hi ht
 have hze : (tt0 == 0) = false := by simpa using hz
 have hwr : IntKind.i64.wrap (now + tt0) = now + tt0 := IntWalk.i64_in _ (by omega)
 have HWR := Hi hwr
 clear hv ht hz hwr
 go_enter Tryz.func22, Tryz.ntmps22
 go_wp2_with fail
 refine (o_still HO.out (vn19_r HV.out _)).mono ?_
 rintro e x1 ⟨rfl, hO, -⟩
 replace HO := Hi (show Own w D x1 [blkR c (.cells #[.slice a n cap] 46), rowR (.slice a n cap) 141 6 n (l.flatMap cIt)] from hO)
 clear hO
 go_wp2_with fail
 refine (time_r HT.out _).mono ?_
 rintro e xp ⟨rfl, rfl⟩
 have z0_0 : x1.cell? _ = some (.slice a n cap) := HO.out.cell 0 rfl 0 rfl
 go_wp2
 clear z0_0
 have hO := rowNew2 HO.out 141 6
 replace HO := Hi hO
 clear hO
 go_loopw [9, 10] (fun ov iv wr => ∃ (k m cap2 : Nat) (a2 : Option Addr), k ≤ n ∧ iv = .int .i64 k ∧ ((l.take k).filter (fun x => !negP nm0 x)).length = m ∧ ov = .slice a2 m cap2 ∧ Own w D wr [blkR c (.cells #[.slice a n cap] 46), rowR (.slice a n cap) 141 6 n (l.flatMap cIt), rowR (.slice a2 m cap2) 141 6 m (((l.take k).filter (fun x => !negP nm0 x)).flatMap cIt)]) (fun _ iv _ => n - (intOf iv).toNat)
 case atStart => exact ⟨0, 0, 0, none, Nat.zero_le _, rfl, rfl, rfl, HO.out⟩
 case round =>
  obtain ⟨k, m, cap2, a2, hk, rfl, hml, rfl, hO⟩ := hrel
  replace HO := Hi hO
  clear hO
  by_cases hlt : k < n
  ·
   obtain ⟨g, rfl⟩ := row_some (HO.out.row 1 rfl) (by omega)
   have hkl : k < l.length := by have := HN.out; omega
   have hrw := HO.out.row 1 rfl
   have yc : ∀ q u, q < 6 → (cIt l[k])[q]? = some u → wr.cell? ⟨g, k * 6 + q, none⟩ = some u := fun q u hq hu => (row_cells hrw).1 _ _ (by rw [flat_getR cIt 6 (fun _ => rfl) l k hkl q hq]; exact hu)
   have HY := Hi (fun h => filt_yes (p := (fun x => !negP nm0 x)) hkl h)
   have HX := Hi (fun h => filt_no (p := (fun x => !negP nm0 x)) hkl h)
   have HM := Hi (show m ≤ k by rw [← hml]; exact filt_tk _ _ _)
   have HML := Hi hml
   clear hml
   generalize l[k] = x at *
   obtain ⟨nm, kd, ad, to, ex⟩ := x
   have y0 : wr.cell? ⟨g, k * 6, none⟩ = some (.string nm) := yc 0 _ (by decide) rfl
   have y1 : wr.cell? ⟨g, k * 6 + 1, none⟩ = some (.int .i64 kd) := yc 1 _ (by decide) rfl
   have y2 : wr.cell? ⟨g, k * 6 + 2, none⟩ = some (.int .i64 0) := yc 2 _ (by decide) rfl
   have y3 : wr.cell? ⟨g, k * 6 + 3, none⟩ = some (.int .i64 ad) := yc 3 _ (by decide) rfl
   have y4 : wr.cell? ⟨g, k * 6 + 4, none⟩ = some (.string to) := yc 4 _ (by decide) rfl
   have y5 : wr.cell? ⟨g, k * 6 + 5, none⟩ = some (.int .i64 ex) := yc 5 _ (by decide) rfl
   clear yc hkl hrw
   have z0_0 : wr.cell? _ = some (.slice (some ⟨g, 0, none⟩) n cap) := HO.out.cell 0 rfl 0 rfl
   cases hd : nm.toList == nm0.toList with
   | false =>
    have HS := Hi (HY.out (show (!(nm.toList == nm0.toList)) = true by rw [hd]; rfl))
    clear HY HX
    obtain ⟨x22, hx22, bl, hbl, hO⟩ := HO.out.allocE (.cells #[.string nm, .int .i64 kd, .int .i64 0, .int .i64 ad, .string to, .int .i64 ex] 141)
    replace HO := Hi (show Own _ _ _ [blkR c (.cells #[.slice (some ⟨g, 0, none⟩) n cap] 46), rowR (.slice (some ⟨g, 0, none⟩) n cap) 141 6 n (l.flatMap cIt), rowR (.slice a2 m cap2) 141 6 m (((l.take k).filter (fun x => !negP nm0 x)).flatMap cIt), blkR bl (.cells #[.string nm, .int .i64 kd, .int .i64 0, .int .i64 ad, .string to, .int .i64 ex] 141)] from hO)
    clear hO
    go_wp2_with ((at_builtin; refine (show _ = True → _ from fun h => of_eq_true h) ?_))
    refine eq_true ?_
    refine wpList_appO rfl (.tmp 49) (.tmp 57) 44 rfl Tryz.underlying44 infoIt rfl (by decide) HO.out 2 rfl rfl 3 1 1 [.string nm, .int .i64 kd, .int .i64 0, .int .i64 ad, .string to, .int .i64 ex] rfl rfl rfl (oneIt ⟨nm, kd, ad, to, ex⟩) (by have := HM.out; unfold maxLen; omega) (by have := HM.out; omega) ?_
    intro v' w' hO
    clear y0 y1 y2 y3 y4 y5 z0_0 hx22 hbl
    simp only [l_S, l_Z] at hO
    have hO := hO.take 3
    obtain ⟨a3, cap3, rfl⟩ := row_shape (Own.row hO 2 rfl)
    have HO := Hi hO
    clear hO
    go_wp2
    go_roundw
    case rel =>
     refine ⟨k + 1, m + 1, cap3, a3, by omega, by go_num, by rw [HS.out, List.length_append]; simp; exact HML.out, rfl, ?_⟩
     rw [HS.out, List.flatMap_append, List.flatMap_cons, List.flatMap_nil, List.append_nil]
     exact HO.out
    case measure => simp [intOf]; omega
   | true =>
    have HS := Hi (HX.out (show (!(nm.toList == nm0.toList)) = false by rw [hd]; rfl))
    clear HY HX
    go_wp2
    go_roundw
    case rel => exact ⟨k + 1, m, cap2, a2, by omega, by go_num, by rw [HS.out]; exact HML.out, rfl, by rw [HS.out]; exact HO.out.take 3⟩
    case measure => simp [intOf]; omega
  ·
   obtain rfl : k = n := by omega
   have hO := HO.out
   rw [show l.take k = l by rw [← HN.out, List.take_length]] at hO hml
   have HML := Hi hml
   clear hml
   replace HO := Hi hO
   clear hO
   have ⟨z0_0, y0_0⟩ : wr.cell? _ = some (.slice a k cap) ∧ _ := HO.out.cf 0 rfl 0 rfl
   obtain ⟨x22, hx22, hO⟩ := HO.out.setE 0 rfl 0 (.slice a2 m cap2)
   replace HO := Hi (show Own _ _ _ [blkR c (.cells #[.slice a2 m cap2] 46), rowR (.slice a k cap) 141 6 k (l.flatMap cIt), rowR (.slice a2 m cap2) 141 6 m ((l.filter (fun x => !negP nm0 x)).flatMap cIt)] from hO)
   clear hO
   have hwr := HWR.out
   go_wp2_with fail
   clear z0_0 y0_0 hx22
   have hO := HO.out.pick (L' := [blkR c (.cells #[.slice a2 m cap2] 46), rowR (.slice a2 m cap2) 141 6 m ((l.filter (fun x => !negP nm0 x)).flatMap cIt)]) [0, 2] (by decide) (fun k R hk => by
    match k, hk with
    | 0, hk => exact ⟨0, rfl, hk⟩
    | 1, hk => exact ⟨2, rfl, hk⟩)
   have hO2 : Own w D x22 [blkI c (.slice a2 m cap2), rowIt (.slice a2 m cap2) (l.filter (fun x => !negP nm0 x))] := by
    show Own w D x22 [blkI c (.slice a2 m cap2), rowR (.slice a2 m cap2) _ 6 _ _]
    rw [HML.out]
    exact hO
   replace HO := Hi (shutI' hO2)
   have hfl : (l.filter (fun x => !negP nm0 x)).length ≤ 32 := Nat.le_trans (List.length_filter_le _ _) (by have := HN.out; omega)
   have HFL := Hi hfl
   clear hO hO2 hfl
   refine (keep_o (e := ⟨nm0, 0, 0, ⟨#[]⟩, now + tt0⟩) HO.out 0 rfl HFL.out).mono ?_
   rintro e x23 ⟨rfl, hO, -⟩
   replace HO := Hi (show Own _ _ _ [resI c (storeF (l.filter (fun x => !negP nm0 x)) ⟨nm0, 0, 0, ⟨#[]⟩, now + tt0⟩)] from hO)
   clear hO
   go_wp2
   go_ret
   exact ⟨rfl, HO.out, HO.out.size⟩
theorem ineg_o {w0 w : World} {D : Nat → Prop} {L : List Res} {c : Nat} {l : List En} (now : Int) (nm0 : ByteArray) (tt0 : Int) (h : Own w0 D w L) (i : Nat) (hi : L[i]? = some (resI c l)) (hl : l.length ≤ 32) :
  Calls Tryz.prog 22 #[.pointer (some ⟨c, 0, none⟩), .int .i64 now, .string nm0, .int .i64 tt0] w (OPost w0 D (L.set i (resI c (negF now nm0 tt0 l))) (.int .i64 (negE now nm0 tt0)) w) := by
 cases hv : vname nm0 with
 | false =>
  have := ineg_1 now nm0 tt0 h i hi hl hv
  simpa [negF, negE, chkF, hv] using this
 | true =>
  by_cases h0 : tt0 < 0
  ·
   have := ineg_2 now nm0 tt0 h i hi hl hv h0
   have h0' : ¬ 0 ≤ tt0 := by omega
   simpa [negF, negE, chkF, hv, h0'] using this
  by_cases h9 : 1000 < tt0
  ·
   have := ineg_3 now nm0 tt0 h i hi hl hv h0 h9
   have h9' : ¬ tt0 ≤ 1000 := by omega
   simpa [negF, negE, chkF, hv, h9'] using this
  have h0' : 0 ≤ tt0 := by omega
  have h9' : tt0 ≤ 1000 := by omega
  cases ht : timB now with
  | false =>
   have := ineg_4 now nm0 tt0 h i hi hl hv h0 h9 ht
   unfold timB at ht
   simpa [negF, negE, chkF, hv, h0', h9', ht] using this
  | true =>
   by_cases hz : tt0 = 0
   ·
    have := ineg_5 now nm0 tt0 h i hi hl hv hz ht
    unfold timB at ht
    subst hz
    have hE : negE now nm0 0 = 0 := by simp [negE, chkF, hv, ht]
    have hF : negF now nm0 0 l = l := by simp [negF]
    rw [hE, hF]; exact this
   ·
    have := ineg_6 now nm0 tt0 h i hi hl hv h0 h9 ht hz
    unfold timB at ht
    have hc : chkF now nm0 tt0 = true := by simp [chkF, hv, ht, h0', h9']
    have hE : negE now nm0 tt0 = 0 := by simp [negE, hc]
    have hF : negF now nm0 tt0 l = storeF (l.filter fun x => !negP nm0 x) ⟨nm0, 0, 0, ⟨#[]⟩, now + tt0⟩ := by simp [negF, hc, hz]
    rw [hE, hF]; exact this
theorem iput_1 {w0 w : World} {D : Nat → Prop} {L : List Res} {c : Nat} {l : List En} (now : Int) (rn : ByteArray) (rk rt ra : Int) (ro : ByteArray) (h : Own w0 D w L) (i : Nat) (hi : L[i]? = some (resI c l)) (hl : l.length ≤ 32) (hv : vldB ⟨rn, rk, rt, ra, ro⟩ = false) :
  Calls Tryz.prog 23 #[.pointer (some ⟨c, 0, none⟩), .int .i64 now, .agg #[.string rn, .int .i64 rk, .int .i64 rt, .int .i64 ra, .string ro]] w (OPost w0 D (L.set i (resI c l)) (.int .i64 200) w) := by
 refine o_one h hi fun D HO0 => ?_
 clear h hi
 have HO := Hi HO0
 clear HO0
 have HV := Hi hv
 clear hv
 obtain ⟨x1, hx1, bp, hbp, hO⟩ := HO.out.allocE (.cells #[.string rn, .int .i64 rk, .int .i64 rt, .int .i64 ra, .string ro] 49)
 replace HO := Hi (show Own w D x1 [resI c l, blkR bp (.cells #[.string rn, .int .i64 rk, .int .i64 rt, .int .i64 ra, .string ro] 49)] from hO)
 clear hO
 obtain ⟨z1_0, z1_1, z1_2, z1_3, z1_4⟩ := HO.out.c5 1 rfl
 go_enter Tryz.func23, Tryz.ntmps23
 go_wp2_with fail
 refine (o_still HO.out (valid20_r (r := ⟨rn, rk, rt, ra, ro⟩) HV.out _)).mono ?_
 rintro e x2 ⟨rfl, hO, -⟩
 replace HO := Hi hO
 clear hO
 clear hx1 hbp z1_0 z1_1 z1_2 z1_3 z1_4
 obtain ⟨z1_0, z1_1, z1_2, z1_3, z1_4⟩ := HO.out.c5 1 rfl
 go_wp2
 go_ret
 exact ⟨rfl, HO.out.take 1, HO.out.size⟩
theorem iput_2 {w0 w : World} {D : Nat → Prop} {L : List Res} {c : Nat} {l : List En} (now : Int) (rn : ByteArray) (rk rt ra : Int) (ro : ByteArray) (h : Own w0 D w L) (i : Nat) (hi : L[i]? = some (resI c l)) (hl : l.length ≤ 32) (hv : vldB ⟨rn, rk, rt, ra, ro⟩ = true) (ht : timB now = false) :
  Calls Tryz.prog 23 #[.pointer (some ⟨c, 0, none⟩), .int .i64 now, .agg #[.string rn, .int .i64 rk, .int .i64 rt, .int .i64 ra, .string ro]] w (OPost w0 D (L.set i (resI c l)) (.int .i64 200) w) := by
 refine o_one h hi fun D HO0 => ?_
 clear h hi
 have HO := Hi HO0
 clear HO0
 have HV := Hi hv
 clear hv
 have HT := Hi ht
 clear ht
 obtain ⟨x1, hx1, bp, hbp, hO⟩ := HO.out.allocE (.cells #[.string rn, .int .i64 rk, .int .i64 rt, .int .i64 ra, .string ro] 49)
 replace HO := Hi (show Own w D x1 [resI c l, blkR bp (.cells #[.string rn, .int .i64 rk, .int .i64 rt, .int .i64 ra, .string ro] 49)] from hO)
 clear hO
 obtain ⟨z1_0, z1_1, z1_2, z1_3, z1_4⟩ := HO.out.c5 1 rfl
 go_enter Tryz.func23, Tryz.ntmps23
 go_wp2_with fail
 refine (o_still HO.out (valid20_r (r := ⟨rn, rk, rt, ra, ro⟩) HV.out _)).mono ?_
 rintro e x2 ⟨rfl, hO, -⟩
 replace HO := Hi hO
 clear hO
 clear hx1 hbp z1_0 z1_1 z1_2 z1_3 z1_4
 obtain ⟨z1_0, z1_1, z1_2, z1_3, z1_4⟩ := HO.out.c5 1 rfl
 go_wp2_with fail
 refine (time_r HT.out _).mono ?_
 rintro e xp ⟨rfl, rfl⟩
 go_wp2
 go_ret
 exact ⟨rfl, HO.out.take 1, HO.out.size⟩
theorem iput_3 {w0 w : World} {D : Nat → Prop} {L : List Res} {c : Nat} {l : List En} (now : Int) (rn : ByteArray) (rk rt ra : Int) (ro : ByteArray) (h : Own w0 D w L) (i : Nat) (hi : L[i]? = some (resI c l)) (hl : l.length ≤ 32) (hv : vldB ⟨rn, rk, rt, ra, ro⟩ = true) (hz : rt = 0) (ht : timB now = true) :
  Calls Tryz.prog 23 #[.pointer (some ⟨c, 0, none⟩), .int .i64 now, .agg #[.string rn, .int .i64 rk, .int .i64 rt, .int .i64 ra, .string ro]] w (OPost w0 D (L.set i (resI c l)) (.int .i64 0) w) := by
 refine o_one h hi fun D HO0 => ?_
 clear h hi
 have HO := Hi HO0
 clear HO0
 subst hz
 have HV := Hi hv
 clear hv
 have HT := Hi ht
 clear ht
 obtain ⟨x1, hx1, bp, hbp, hO⟩ := HO.out.allocE (.cells #[.string rn, .int .i64 rk, .int .i64 0, .int .i64 ra, .string ro] 49)
 replace HO := Hi (show Own w D x1 [resI c l, blkR bp (.cells #[.string rn, .int .i64 rk, .int .i64 0, .int .i64 ra, .string ro] 49)] from hO)
 clear hO
 obtain ⟨z1_0, z1_1, z1_2, z1_3, z1_4⟩ := HO.out.c5 1 rfl
 go_enter Tryz.func23, Tryz.ntmps23
 go_wp2_with fail
 refine (o_still HO.out (valid20_r (r := ⟨rn, rk, 0, ra, ro⟩) HV.out _)).mono ?_
 rintro e x2 ⟨rfl, hO, -⟩
 replace HO := Hi hO
 clear hO
 clear hx1 hbp z1_0 z1_1 z1_2 z1_3 z1_4
 obtain ⟨z1_0, z1_1, z1_2, z1_3, z1_4⟩ := HO.out.c5 1 rfl
 go_wp2_with fail
 refine (time_r HT.out _).mono ?_
 rintro e xp ⟨rfl, rfl⟩
 go_wp2
 go_ret
 exact ⟨rfl, HO.out.take 1, HO.out.size⟩
theorem iput_4 {w0 w : World} {D : Nat → Prop} {L : List Res} {c : Nat} {l : List En} (now : Int) (rn : ByteArray) (rk rt ra : Int) (ro : ByteArray) (h : Own w0 D w L) (i : Nat) (hi : L[i]? = some (resI c l)) (hl : l.length ≤ 32) (hv : vldB ⟨rn, rk, rt, ra, ro⟩ = true) (h0 : 0 ≤ rt) (h9 : rt ≤ 1000) (ht : timB now = true) (hz : rt ≠ 0) :
  Calls Tryz.prog 23 #[.pointer (some ⟨c, 0, none⟩), .int .i64 now, .agg #[.string rn, .int .i64 rk, .int .i64 rt, .int .i64 ra, .string ro]] w (OPost w0 D (L.set i (resI c (storeF (l.filter (fun x => !refP ⟨rn, rk, rt, ra, ro⟩ x)) ⟨rn, rk, ra, ro, now + rt⟩))) (.int .i64 0) w) := by
 refine o_one h hi fun D HO0 => ?_
 clear h hi
 obtain ⟨v, hO⟩ := openI' HO0
 clear HO0
 obtain ⟨n, hn⟩ : ∃ n, l.length = n := ⟨_, rfl⟩
 have HN := Hi hn
 have hO : Own w D w [blkI c v, rowR v 141 6 l.length (l.flatMap cIt)] := hO
 rw [hn] at hO hl
 clear hn
 obtain ⟨a, cap, rfl⟩ := row_shape (hO.row 1 rfl)
 have HO := Hi hO
 clear hO
 have HV := Hi hv
 have htn : 0 ≤ now ∧ now ≤ 1000000000 := by simpa [timB] using ht
 obtain ⟨t1, t2⟩ := htn
 have HT := Hi ht
 have hze : (rt == 0) = false := by simpa using hz
 have hwr : IntKind.i64.wrap (now + rt) = now + rt := IntWalk.i64_in _ (by omega)
 have HWR := Hi hwr
 clear hv ht hz hwr
 obtain ⟨x1, hx1, bp, hbp, hO⟩ := HO.out.allocE (.cells #[.string rn, .int .i64 rk, .int .i64 rt, .int .i64 ra, .string ro] 49)
 replace HO := Hi (show Own w D x1 [blkR c (.cells #[.slice a n cap] 46), rowR (.slice a n cap) 141 6 n (l.flatMap cIt), blkR bp (.cells #[.string rn, .int .i64 rk, .int .i64 rt, .int .i64 ra, .string ro] 49)] from hO)
 clear hO
 obtain ⟨z2_0, z2_1, z2_2, z2_3, z2_4⟩ := HO.out.c5 2 rfl
 go_enter Tryz.func23, Tryz.ntmps23
 go_wp2_with fail
 refine (o_still HO.out (valid20_r (r := ⟨rn, rk, rt, ra, ro⟩) HV.out _)).mono ?_
 rintro e x2 ⟨rfl, hO, -⟩
 replace HO := Hi hO
 clear hO
 clear hx1 hbp z2_0 z2_1 z2_2 z2_3 z2_4
 obtain ⟨z2_0, z2_1, z2_2, z2_3, z2_4⟩ := HO.out.c5 2 rfl
 go_wp2_with fail
 refine (time_r HT.out _).mono ?_
 rintro e xp ⟨rfl, rfl⟩
 have z0_0 : x2.cell? _ = some (.slice a n cap) := HO.out.cell 0 rfl 0 rfl
 go_wp2
 clear z2_0 z2_1 z2_2 z2_3 z2_4 z0_0
 have hO := rowNew2 HO.out 141 6
 replace HO := Hi hO
 clear hO
 go_loopw [7, 8] (fun ov iv wr => ∃ (k m cap2 : Nat) (a2 : Option Addr), k ≤ n ∧ iv = .int .i64 k ∧ ((l.take k).filter (fun x => !refP ⟨rn, rk, rt, ra, ro⟩ x)).length = m ∧ ov = .slice a2 m cap2 ∧ Own w D wr [blkR c (.cells #[.slice a n cap] 46), rowR (.slice a n cap) 141 6 n (l.flatMap cIt), rowR (.slice a2 m cap2) 141 6 m (((l.take k).filter (fun x => !refP ⟨rn, rk, rt, ra, ro⟩ x)).flatMap cIt), blkR bp (.cells #[.string rn, .int .i64 rk, .int .i64 rt, .int .i64 ra, .string ro] 49)]) (fun _ iv _ => n - (intOf iv).toNat)
 case atStart => exact ⟨0, 0, 0, none, Nat.zero_le _, rfl, rfl, rfl, HO.out⟩
 case round =>
  obtain ⟨k, m, cap2, a2, hk, rfl, hml, rfl, hO⟩ := hrel
  replace HO := Hi hO
  clear hO
  by_cases hlt : k < n
  ·
   obtain ⟨g, rfl⟩ := row_some (HO.out.row 1 rfl) (by omega)
   have hkl : k < l.length := by have := HN.out; omega
   have hrw := HO.out.row 1 rfl
   have yc : ∀ q u, q < 6 → (cIt l[k])[q]? = some u → wr.cell? ⟨g, k * 6 + q, none⟩ = some u := fun q u hq hu => (row_cells hrw).1 _ _ (by rw [flat_getR cIt 6 (fun _ => rfl) l k hkl q hq]; exact hu)
   have HY := Hi (fun h => filt_yes (p := (fun x => !refP ⟨rn, rk, rt, ra, ro⟩ x)) hkl h)
   have HX := Hi (fun h => filt_no (p := (fun x => !refP ⟨rn, rk, rt, ra, ro⟩ x)) hkl h)
   have HM := Hi (show m ≤ k by rw [← hml]; exact filt_tk _ _ _)
   have HML := Hi hml
   clear hml
   have HYF := Hi (fun (q : Nat) (u : Value) (hq : q < 6) (hu : (cIt l[k])[q]? = some u) => (by rw [flat_getR cIt 6 (fun _ => rfl) l k hkl q hq]; exact hu : (l.flatMap cIt)[k * 6 + q]? = some u))
   generalize l[k] = x at *
   obtain ⟨nm, kd, ad, to, ex⟩ := x
   have y0 : wr.cell? ⟨g, k * 6, none⟩ = some (.string nm) := yc 0 _ (by decide) rfl
   have y1 : wr.cell? ⟨g, k * 6 + 1, none⟩ = some (.int .i64 kd) := yc 1 _ (by decide) rfl
   have y2 : wr.cell? ⟨g, k * 6 + 2, none⟩ = some (.int .i64 0) := yc 2 _ (by decide) rfl
   have y3 : wr.cell? ⟨g, k * 6 + 3, none⟩ = some (.int .i64 ad) := yc 3 _ (by decide) rfl
   have y4 : wr.cell? ⟨g, k * 6 + 4, none⟩ = some (.string to) := yc 4 _ (by decide) rfl
   have y5 : wr.cell? ⟨g, k * 6 + 5, none⟩ = some (.int .i64 ex) := yc 5 _ (by decide) rfl
   clear yc hkl hrw
   have z0_0 : wr.cell? _ = some (.slice (some ⟨g, 0, none⟩) n cap) := HO.out.cell 0 rfl 0 rfl
   obtain ⟨x23, hx23, bx, hbx, hO⟩ := HO.out.allocE (.cells #[.string ⟨#[]⟩, .int .i64 0, .int .i64 0, .int .i64 0, .string ⟨#[]⟩] 49)
   replace HO := Hi (show Own _ _ _ [blkR c (.cells #[.slice (some ⟨g, 0, none⟩) n cap] 46), rowR (.slice (some ⟨g, 0, none⟩) n cap) 141 6 n (l.flatMap cIt), rowR (.slice a2 m cap2) 141 6 m (((l.take k).filter (fun x => !refP ⟨rn, rk, rt, ra, ro⟩ x)).flatMap cIt), blkR bp (.cells #[.string rn, .int .i64 rk, .int .i64 rt, .int .i64 ra, .string ro] 49), blkR bx (.cells #[.string ⟨#[]⟩, .int .i64 0, .int .i64 0, .int .i64 0, .string ⟨#[]⟩] 49)] from hO)
   clear hO
   obtain ⟨x29, x34, x38, x41, x43, hx29, hx34, hx38, hx41, hx43, k4_0_24, lk4_0_24, k4_1_30, lk4_1_30, k4_2_35, lk4_2_35, k4_3_39, lk4_3_39, k4_4_42, lk4_4_42, hO⟩ := HO.out.steps5 4 rfl (.string nm) (.int .i64 kd) (.int .i64 0) (.int .i64 ad) (.string to)
   replace HO := Hi (show Own _ _ _ [_, _, _, _, blkR bx (.cells #[.string nm, .int .i64 kd, .int .i64 0, .int .i64 ad, .string to] 49)] from hO)
   clear hO
   obtain ⟨z4_0, z4_1, -, -, -⟩ := HO.out.c5 4 rfl
   have z3_0 : x43.cell? _ = some (.string rn) := HO.out.cell 3 rfl 0 rfl
   by_cases hk0 : kd = 0
   ·
    subst hk0
    cases hn : nm.toList == rn.toList with
    | true =>
     have HS := Hi (HX.out (show (!refP ⟨rn, rk, rt, ra, ro⟩ ⟨nm, 0, ad, to, ex⟩) = false by simp [refP, hn]))
     clear HY HX
     go_wp2
     clear y0 y1 y2 y3 y4 y5 z0_0 hx23 hbx k4_0_24 lk4_0_24 hx29 k4_1_30 lk4_1_30 hx34 k4_2_35 lk4_2_35 hx38 k4_3_39 lk4_3_39 hx41 k4_4_42 lk4_4_42 hx43 z4_0 z4_1 z3_0
     refine wp_region_B (by kernel_rfl) (by kernel_rfl) ?_
     repeat (go_big_quiet_step (fail))
     refine wpQuiet_nil ?_
     intro x98 hbw
     have hO := HO.out.stay hbw
     replace HO := Hi (show Own _ _ _ [_, _, _, _, blkR bx (.cells #[.string nm, .int .i64 0, .int .i64 0, .int .i64 ad, .string to] 49)] from hO)
     clear hO hbw
     go_wp2
     go_roundw
     case rel => exact ⟨k + 1, m, cap2, a2, by omega, by go_num, by rw [HS.out]; exact HML.out, rfl, by rw [HS.out]; exact HO.out.take 4⟩
     case measure => simp [intOf]; omega
    | false =>
     cases hd : rcEq ⟨nm, 0, 0, ad, to⟩ ⟨rn, rk, 0, ra, ro⟩ with
     | true =>
      have HS := Hi (HX.out (show (!refP ⟨rn, rk, rt, ra, ro⟩ ⟨nm, 0, ad, to, ex⟩) = false by simp [refP, hd]))
      clear HY HX
      go_wp2
      clear y0 y1 y2 y3 y4 y5 z0_0 hx23 hbx k4_0_24 lk4_0_24 hx29 k4_1_30 lk4_1_30 hx34 k4_2_35 lk4_2_35 hx38 k4_3_39 lk4_3_39 hx41 k4_4_42 lk4_4_42 hx43 z4_0 z4_1 z3_0
      have g4_0 := cell_regrown (show x43.cell? _ = some (.string nm) from HO.out.cell 4 rfl 0 rfl)
      have g4_1 := cell_regrown (show x43.cell? _ = some (.int .i64 0) from HO.out.cell 4 rfl 1 rfl)
      have g4_2 := cell_regrown (show x43.cell? _ = some (.int .i64 0) from HO.out.cell 4 rfl 2 rfl)
      have g4_3 := cell_regrown (show x43.cell? _ = some (.int .i64 ad) from HO.out.cell 4 rfl 3 rfl)
      have g4_4 := cell_regrown (show x43.cell? _ = some (.string to) from HO.out.cell 4 rfl 4 rfl)
      have h3_0 := cell_regrown (show x43.cell? _ = some (.string rn) from HO.out.cell 3 rfl 0 rfl)
      have h3_1 := cell_regrown (show x43.cell? _ = some (.int .i64 rk) from HO.out.cell 3 rfl 1 rfl)
      have h3_2 := cell_regrown (show x43.cell? _ = some (.int .i64 rt) from HO.out.cell 3 rfl 2 rfl)
      have h3_3 := cell_regrown (show x43.cell? _ = some (.int .i64 ra) from HO.out.cell 3 rfl 3 rfl)
      have h3_4 := cell_regrown (show x43.cell? _ = some (.string ro) from HO.out.cell 3 rfl 4 rfl)
      refine wp_region_B (by kernel_rfl) (by kernel_rfl) ?_
      repeat (go_big_quiet_step ((go_at_call 68; exact Calls.regrown_of (thing_any _ _ _ _ _ _))))
      refine wpQuiet_nil ?_
      intro x941 hbw
      have hO := HO.out.stay hbw
      clear g4_0 g4_1 g4_2 g4_3 g4_4 h3_0 h3_1 h3_2 h3_3 h3_4
      replace HO := Hi hO
      clear hO hbw
      go_wp2
      go_roundw
      case rel => exact ⟨k + 1, m, cap2, a2, by omega, by go_num, by rw [HS.out]; exact HML.out, rfl, by rw [HS.out]; exact HO.out.take 4⟩
      case measure => simp [intOf]; omega
     | false =>
      have HS := Hi (HY.out (show (!refP ⟨rn, rk, rt, ra, ro⟩ ⟨nm, 0, ad, to, ex⟩) = true by simp [refP, hd, hn]))
      clear HY HX
      go_wp2
      clear y0 y1 y2 y3 y4 y5 z0_0 hx23 hbx k4_0_24 lk4_0_24 hx29 k4_1_30 lk4_1_30 hx34 k4_2_35 lk4_2_35 hx38 k4_3_39 lk4_3_39 hx41 k4_4_42 lk4_4_42 hx43 z4_0 z4_1 z3_0
      have g4_0 := cell_regrown (show x43.cell? _ = some (.string nm) from HO.out.cell 4 rfl 0 rfl)
      have g4_1 := cell_regrown (show x43.cell? _ = some (.int .i64 0) from HO.out.cell 4 rfl 1 rfl)
      have g4_2 := cell_regrown (show x43.cell? _ = some (.int .i64 0) from HO.out.cell 4 rfl 2 rfl)
      have g4_3 := cell_regrown (show x43.cell? _ = some (.int .i64 ad) from HO.out.cell 4 rfl 3 rfl)
      have g4_4 := cell_regrown (show x43.cell? _ = some (.string to) from HO.out.cell 4 rfl 4 rfl)
      have h3_0 := cell_regrown (show x43.cell? _ = some (.string rn) from HO.out.cell 3 rfl 0 rfl)
      have h3_1 := cell_regrown (show x43.cell? _ = some (.int .i64 rk) from HO.out.cell 3 rfl 1 rfl)
      have h3_2 := cell_regrown (show x43.cell? _ = some (.int .i64 rt) from HO.out.cell 3 rfl 2 rfl)
      have h3_3 := cell_regrown (show x43.cell? _ = some (.int .i64 ra) from HO.out.cell 3 rfl 3 rfl)
      have h3_4 := cell_regrown (show x43.cell? _ = some (.string ro) from HO.out.cell 3 rfl 4 rfl)
      refine wp_region_B (by kernel_rfl) (by kernel_rfl) ?_
      repeat (go_big_quiet_step ((go_at_call 68; exact Calls.regrown_of (thing_any _ _ _ _ _ _))))
      refine wpQuiet_nil ?_
      intro x941 hbw
      have hO := HO.out.stay hbw
      clear g4_0 g4_1 g4_2 g4_3 g4_4 h3_0 h3_1 h3_2 h3_3 h3_4
      replace HO := Hi hO
      clear hO hbw
      have hrw := HO.out.row 1 rfl
      have y0 : x941.cell? ⟨g, k * 6, none⟩ = some (.string nm) := (row_cells hrw).1 _ _ (HYF.out 0 _ (by decide) rfl)
      have y1 : x941.cell? ⟨g, k * 6 + 1, none⟩ = some (.int .i64 0) := (row_cells hrw).1 _ _ (HYF.out 1 _ (by decide) rfl)
      have y2 : x941.cell? ⟨g, k * 6 + 2, none⟩ = some (.int .i64 0) := (row_cells hrw).1 _ _ (HYF.out 2 _ (by decide) rfl)
      have y3 : x941.cell? ⟨g, k * 6 + 3, none⟩ = some (.int .i64 ad) := (row_cells hrw).1 _ _ (HYF.out 3 _ (by decide) rfl)
      have y4 : x941.cell? ⟨g, k * 6 + 4, none⟩ = some (.string to) := (row_cells hrw).1 _ _ (HYF.out 4 _ (by decide) rfl)
      have y5 : x941.cell? ⟨g, k * 6 + 5, none⟩ = some (.int .i64 ex) := (row_cells hrw).1 _ _ (HYF.out 5 _ (by decide) rfl)
      clear hrw
      have z0_0 : x941.cell? _ = some (.slice (some ⟨g, 0, none⟩) n cap) := HO.out.cell 0 rfl 0 rfl
      obtain ⟨x45, hx45, bl, hbl, hO⟩ := HO.out.allocE (.cells #[.string nm, .int .i64 0, .int .i64 0, .int .i64 ad, .string to, .int .i64 ex] 141)
      replace HO := Hi (show Own _ _ _ [_, _, _, _, _, blkR bl (.cells #[.string nm, .int .i64 0, .int .i64 0, .int .i64 ad, .string to, .int .i64 ex] 141)] from hO)
      clear hO
      go_wp2_with ((at_builtin; refine (show _ = True → _ from fun h => of_eq_true h) ?_))
      refine eq_true ?_
      refine wpList_appO rfl (.tmp 57) (.tmp 65) 44 rfl Tryz.underlying44 infoIt rfl (by decide) HO.out 2 rfl rfl 5 1 1 [.string nm, .int .i64 0, .int .i64 0, .int .i64 ad, .string to, .int .i64 ex] rfl rfl rfl (oneIt ⟨nm, 0, ad, to, ex⟩) (by have := HM.out; unfold maxLen; omega) (by have := HM.out; omega) ?_
      intro v' w' hO
      clear y0 y1 y2 y3 y4 y5 z0_0 hx45 hbl
      simp only [l_S, l_Z] at hO
      have hO := hO.take 4
      obtain ⟨a3, cap3, rfl⟩ := row_shape (Own.row hO 2 rfl)
      have HO := Hi hO
      clear hO
      go_wp2
      go_roundw
      case rel =>
       refine ⟨k + 1, m + 1, cap3, a3, by omega, by go_num, by rw [HS.out, List.length_append]; simp; exact HML.out, rfl, ?_⟩
       rw [HS.out, List.flatMap_append, List.flatMap_cons, List.flatMap_nil, List.append_nil]
       exact HO.out
      case measure => simp [intOf]; omega
   ·
    have hk1 : (kd == 0) = false := by simpa using hk0
    clear hk0
    cases hd : rcEq ⟨nm, kd, 0, ad, to⟩ ⟨rn, rk, 0, ra, ro⟩ with
    | true =>
     have HS := Hi (HX.out (show (!refP ⟨rn, rk, rt, ra, ro⟩ ⟨nm, kd, ad, to, ex⟩) = false by simp [refP, hd]))
     clear HY HX
     go_wp2
     clear y0 y1 y2 y3 y4 y5 z0_0 hx23 hbx k4_0_24 lk4_0_24 hx29 k4_1_30 lk4_1_30 hx34 k4_2_35 lk4_2_35 hx38 k4_3_39 lk4_3_39 hx41 k4_4_42 lk4_4_42 hx43 z4_0 z4_1 z3_0
     have g4_0 := cell_regrown (show x43.cell? _ = some (.string nm) from HO.out.cell 4 rfl 0 rfl)
     have g4_1 := cell_regrown (show x43.cell? _ = some (.int .i64 kd) from HO.out.cell 4 rfl 1 rfl)
     have g4_2 := cell_regrown (show x43.cell? _ = some (.int .i64 0) from HO.out.cell 4 rfl 2 rfl)
     have g4_3 := cell_regrown (show x43.cell? _ = some (.int .i64 ad) from HO.out.cell 4 rfl 3 rfl)
     have g4_4 := cell_regrown (show x43.cell? _ = some (.string to) from HO.out.cell 4 rfl 4 rfl)
     have h3_0 := cell_regrown (show x43.cell? _ = some (.string rn) from HO.out.cell 3 rfl 0 rfl)
     have h3_1 := cell_regrown (show x43.cell? _ = some (.int .i64 rk) from HO.out.cell 3 rfl 1 rfl)
     have h3_2 := cell_regrown (show x43.cell? _ = some (.int .i64 rt) from HO.out.cell 3 rfl 2 rfl)
     have h3_3 := cell_regrown (show x43.cell? _ = some (.int .i64 ra) from HO.out.cell 3 rfl 3 rfl)
     have h3_4 := cell_regrown (show x43.cell? _ = some (.string ro) from HO.out.cell 3 rfl 4 rfl)
     refine wp_region_B (by kernel_rfl) (by kernel_rfl) ?_
     repeat (go_big_quiet_step ((go_at_call 68; exact Calls.regrown_of (thing_any _ _ _ _ _ _))))
     refine wpQuiet_nil ?_
     intro x941 hbw
     have hO := HO.out.stay hbw
     clear g4_0 g4_1 g4_2 g4_3 g4_4 h3_0 h3_1 h3_2 h3_3 h3_4
     replace HO := Hi (show Own _ _ _ [_, _, _, _, blkR bx (.cells #[.string nm, .int .i64 kd, .int .i64 0, .int .i64 ad, .string to] 49)] from hO)
     clear hO hbw
     go_wp2
     go_roundw
     case rel => exact ⟨k + 1, m, cap2, a2, by omega, by go_num, by rw [HS.out]; exact HML.out, rfl, by rw [HS.out]; exact HO.out.take 4⟩
     case measure => simp [intOf]; omega
    | false =>
     have HS := Hi (HY.out (show (!refP ⟨rn, rk, rt, ra, ro⟩ ⟨nm, kd, ad, to, ex⟩) = true by simp [refP, hd, hk1]))
     clear HY HX
     go_wp2
     clear y0 y1 y2 y3 y4 y5 z0_0 hx23 hbx k4_0_24 lk4_0_24 hx29 k4_1_30 lk4_1_30 hx34 k4_2_35 lk4_2_35 hx38 k4_3_39 lk4_3_39 hx41 k4_4_42 lk4_4_42 hx43 z4_0 z4_1 z3_0
     have g4_0 := cell_regrown (show x43.cell? _ = some (.string nm) from HO.out.cell 4 rfl 0 rfl)
     have g4_1 := cell_regrown (show x43.cell? _ = some (.int .i64 kd) from HO.out.cell 4 rfl 1 rfl)
     have g4_2 := cell_regrown (show x43.cell? _ = some (.int .i64 0) from HO.out.cell 4 rfl 2 rfl)
     have g4_3 := cell_regrown (show x43.cell? _ = some (.int .i64 ad) from HO.out.cell 4 rfl 3 rfl)
     have g4_4 := cell_regrown (show x43.cell? _ = some (.string to) from HO.out.cell 4 rfl 4 rfl)
     have h3_0 := cell_regrown (show x43.cell? _ = some (.string rn) from HO.out.cell 3 rfl 0 rfl)
     have h3_1 := cell_regrown (show x43.cell? _ = some (.int .i64 rk) from HO.out.cell 3 rfl 1 rfl)
     have h3_2 := cell_regrown (show x43.cell? _ = some (.int .i64 rt) from HO.out.cell 3 rfl 2 rfl)
     have h3_3 := cell_regrown (show x43.cell? _ = some (.int .i64 ra) from HO.out.cell 3 rfl 3 rfl)
     have h3_4 := cell_regrown (show x43.cell? _ = some (.string ro) from HO.out.cell 3 rfl 4 rfl)
     refine wp_region_B (by kernel_rfl) (by kernel_rfl) ?_
     repeat (go_big_quiet_step ((go_at_call 68; exact Calls.regrown_of (thing_any _ _ _ _ _ _))))
     refine wpQuiet_nil ?_
     intro x941 hbw
     have hO := HO.out.stay hbw
     clear g4_0 g4_1 g4_2 g4_3 g4_4 h3_0 h3_1 h3_2 h3_3 h3_4
     replace HO := Hi hO
     clear hO hbw
     have hrw := HO.out.row 1 rfl
     have y0 : x941.cell? ⟨g, k * 6, none⟩ = some (.string nm) := (row_cells hrw).1 _ _ (HYF.out 0 _ (by decide) rfl)
     have y1 : x941.cell? ⟨g, k * 6 + 1, none⟩ = some (.int .i64 kd) := (row_cells hrw).1 _ _ (HYF.out 1 _ (by decide) rfl)
     have y2 : x941.cell? ⟨g, k * 6 + 2, none⟩ = some (.int .i64 0) := (row_cells hrw).1 _ _ (HYF.out 2 _ (by decide) rfl)
     have y3 : x941.cell? ⟨g, k * 6 + 3, none⟩ = some (.int .i64 ad) := (row_cells hrw).1 _ _ (HYF.out 3 _ (by decide) rfl)
     have y4 : x941.cell? ⟨g, k * 6 + 4, none⟩ = some (.string to) := (row_cells hrw).1 _ _ (HYF.out 4 _ (by decide) rfl)
     have y5 : x941.cell? ⟨g, k * 6 + 5, none⟩ = some (.int .i64 ex) := (row_cells hrw).1 _ _ (HYF.out 5 _ (by decide) rfl)
     clear hrw
     have z0_0 : x941.cell? _ = some (.slice (some ⟨g, 0, none⟩) n cap) := HO.out.cell 0 rfl 0 rfl
     obtain ⟨x45, hx45, bl, hbl, hO⟩ := HO.out.allocE (.cells #[.string nm, .int .i64 kd, .int .i64 0, .int .i64 ad, .string to, .int .i64 ex] 141)
     replace HO := Hi (show Own _ _ _ [_, _, _, _, _, blkR bl (.cells #[.string nm, .int .i64 kd, .int .i64 0, .int .i64 ad, .string to, .int .i64 ex] 141)] from hO)
     clear hO
     go_wp2_with ((at_builtin; refine (show _ = True → _ from fun h => of_eq_true h) ?_))
     refine eq_true ?_
     refine wpList_appO rfl (.tmp 57) (.tmp 65) 44 rfl Tryz.underlying44 infoIt rfl (by decide) HO.out 2 rfl rfl 5 1 1 [.string nm, .int .i64 kd, .int .i64 0, .int .i64 ad, .string to, .int .i64 ex] rfl rfl rfl (oneIt ⟨nm, kd, ad, to, ex⟩) (by have := HM.out; unfold maxLen; omega) (by have := HM.out; omega) ?_
     intro v' w' hO
     clear y0 y1 y2 y3 y4 y5 z0_0 hx45 hbl
     simp only [l_S, l_Z] at hO
     have hO := hO.take 4
     obtain ⟨a3, cap3, rfl⟩ := row_shape (Own.row hO 2 rfl)
     have HO := Hi hO
     clear hO
     go_wp2
     go_roundw
     case rel =>
      refine ⟨k + 1, m + 1, cap3, a3, by omega, by go_num, by rw [HS.out, List.length_append]; simp; exact HML.out, rfl, ?_⟩
      rw [HS.out, List.flatMap_append, List.flatMap_cons, List.flatMap_nil, List.append_nil]
      exact HO.out
     case measure => simp [intOf]; omega
  ·
   obtain rfl : k = n := by omega
   have hO := HO.out
   rw [show l.take k = l by rw [← HN.out, List.take_length]] at hO hml
   have HML := Hi hml
   clear hml
   replace HO := Hi hO
   clear hO
   have ⟨z0_0, y0_0⟩ : wr.cell? _ = some (.slice a k cap) ∧ _ := HO.out.cf 0 rfl 0 rfl
   obtain ⟨x23, hx23, hO⟩ := HO.out.setE 0 rfl 0 (.slice a2 m cap2)
   replace HO := Hi (show Own _ _ _ [blkR c (.cells #[.slice a2 m cap2] 46), rowR (.slice a k cap) 141 6 k (l.flatMap cIt), rowR (.slice a2 m cap2) 141 6 m ((l.filter (fun x => !refP ⟨rn, rk, rt, ra, ro⟩ x)).flatMap cIt), _] from hO)
   clear hO
   go_wp2
   clear z0_0 y0_0 hx23
   have hO := HO.out.pick (L' := [blkR c (.cells #[.slice a2 m cap2] 46), rowR (.slice a2 m cap2) 141 6 m ((l.filter (fun x => !refP ⟨rn, rk, rt, ra, ro⟩ x)).flatMap cIt), blkR bp (.cells #[.string rn, .int .i64 rk, .int .i64 rt, .int .i64 ra, .string ro] 49)]) [0, 2, 3] (by decide) (fun k R hk => by
    match k, hk with
    | 0, hk => exact ⟨0, rfl, hk⟩
    | 1, hk => exact ⟨2, rfl, hk⟩
    | 2, hk => exact ⟨3, rfl, hk⟩)
   have hO2 : Own w D x23 [blkI c (.slice a2 m cap2), rowIt (.slice a2 m cap2) (l.filter (fun x => !refP ⟨rn, rk, rt, ra, ro⟩ x)), blkR bp (.cells #[.string rn, .int .i64 rk, .int .i64 rt, .int .i64 ra, .string ro] 49)] := by
    show Own w D x23 [blkI c (.slice a2 m cap2), rowR (.slice a2 m cap2) _ 6 _ _, _]
    rw [HML.out]
    exact hO
   replace HO := Hi (shutI' hO2)
   have hwr := HWR.out
   have hfl : (l.filter (fun x => !refP ⟨rn, rk, rt, ra, ro⟩ x)).length ≤ 32 := Nat.le_trans (List.length_filter_le _ _) (by have := HN.out; omega)
   have HFL := Hi hfl
   clear hO hO2 hfl
   generalize hΓ : ghO w D [[resI c (l.filter (fun x => !refP ⟨rn, rk, rt, ra, ro⟩ x)), blkR bp (.cells #[.string rn, .int .i64 rk, .int .i64 rt, .int .i64 ra, .string ro] 49)], [resI c (storeF (l.filter (fun x => !refP ⟨rn, rk, rt, ra, ro⟩ x)) ⟨rn, rk, ra, ro, now + rt⟩), blkR bp (.cells #[.string rn, .int .i64 rk, .int .i64 rt, .int .i64 ra, .string ro] 49)]] = Γ
   have HST := Hi (show Γ.inv [] x23 by rw [← hΓ]; exact ghO_start HO.out)
   have q1_0 : ∀ q : Γ.Wd, q.w.cell? ⟨bp, 0, none⟩ = some (.string rn) := by rw [← hΓ]; exact ghO_cell (c := #[.string rn, .int .i64 rk, .int .i64 rt, .int .i64 ra, .string ro]) (t := 49) 1 (by simp) 0 rfl
   have q1_1 : ∀ q : Γ.Wd, q.w.cell? ⟨bp, 1, none⟩ = some (.int .i64 rk) := by rw [← hΓ]; exact ghO_cell (c := #[.string rn, .int .i64 rk, .int .i64 rt, .int .i64 ra, .string ro]) (t := 49) 1 (by simp) 1 rfl
   have q1_2 : ∀ q : Γ.Wd, q.w.cell? ⟨bp, 2, none⟩ = some (.int .i64 rt) := by rw [← hΓ]; exact ghO_cell (c := #[.string rn, .int .i64 rk, .int .i64 rt, .int .i64 ra, .string ro]) (t := 49) 1 (by simp) 2 rfl
   have q1_3 : ∀ q : Γ.Wd, q.w.cell? ⟨bp, 3, none⟩ = some (.int .i64 ra) := by rw [← hΓ]; exact ghO_cell (c := #[.string rn, .int .i64 rk, .int .i64 rt, .int .i64 ra, .string ro]) (t := 49) 1 (by simp) 3 rfl
   have q1_4 : ∀ q : Γ.Wd, q.w.cell? ⟨bp, 4, none⟩ = some (.string ro) := by rw [← hΓ]; exact ghO_cell (c := #[.string rn, .int .i64 rk, .int .i64 rt, .int .i64 ra, .string ro]) (t := 49) 1 (by simp) 4 rfl
   have HΓ := Hi hΓ
   clear hΓ
   have ne : Nonempty Γ.Wd := ⟨⟨[], x23, HST.out⟩⟩
   refine wp_region_H Γ 9 [8] (by kernel_rfl) (by kernel_rfl) (by kernel_rfl) (by kernel_rfl) HST.out ?_
   simp only [List.take, List.drop]
   iterate 2 (first | (refine wpH_want (by kernel_rfl) (by kernel_rfl) rfl rfl ?_; intro K hK; go_big_quiet_op; go_big_quiet_on) | (refine wpH_is (by kernel_rfl) (by kernel_rfl) rfl _ (fun _ w _ => rfl) ?_; simp only [Act.put, l_T, l_S, l_Z]))
   refine wpH_call (by kernel_rfl) (by kernel_rfl) rfl 68 #[.agg #[.string rn, .int .i64 rk, .int .i64 rt, .int .i64 ra, .string ro]] (.agg #[.string rn, .int .i64 rk, .int .i64 0, .int .i64 ra, .string ro]) (fun w => by simp [go_sem]) (fun _ w _ => thing_any _ _ _ _ _ _) ?_
   simp only [Act.put, l_T, l_S, l_Z]
   iterate 5 (first | (refine wpH_want (by kernel_rfl) (by kernel_rfl) rfl rfl ?_; intro K hK; go_big_quiet_op; go_big_quiet_on) | (refine wpH_is (by kernel_rfl) (by kernel_rfl) rfl _ (fun _ w _ => rfl) ?_; simp only [Act.put, l_T, l_S, l_Z]))
   refine wpH_chain 0 (by kernel_rfl) (by kernel_rfl) rfl 66 #[.pointer (some ⟨c, 0, none⟩), .agg #[.string rn, .int .i64 rk, .int .i64 0, .int .i64 ra, .string ro, .int .i64 (now + rt)]] (.tuple #[]) (fun w => by simp [go_sem]) (fun vs w hg hvs => by
    rw [← HΓ.out] at hg ⊢
    exact ghO_call 0 hg hvs rfl rfl fun ho => keep_o (e := ⟨rn, rk, ra, ro, now + rt⟩) ho 0 rfl HFL.out) ?_
   simp only [Act.put, l_T, l_S, l_Z]
   refine wpH_nil (by kernel_rfl) (by simp) ?_
   rintro ⟨vs, x99⟩ hg hgl
   rw [← HΓ.out] at hg
   replace HO := Hi (ghO_at hg 1 hgl rfl)
   simp only [gexAll, List.drop]
   clear q1_0 q1_1 q1_2 q1_3 q1_4 ne HST hg hgl HΓ
   replace HO := Hi (show Own w D x99 [resI c (storeF (l.filter (fun x => !refP ⟨rn, rk, rt, ra, ro⟩ x)) ⟨rn, rk, ra, ro, now + rt⟩), blkR bp (.cells #[.string rn, .int .i64 rk, .int .i64 rt, .int .i64 ra, .string ro] 49)] from HO.out)
   go_wp2
   go_ret
   exact ⟨rfl, HO.out.take 1, HO.out.size⟩
theorem iput_o {w0 w : World} {D : Nat → Prop} {L : List Res} {c : Nat} {l : List En} (now : Int) (r : Rc) (h : Own w0 D w L) (i : Nat) (hi : L[i]? = some (resI c l)) (hl : l.length ≤ 32) :
  Calls Tryz.prog 23 #[.pointer (some ⟨c, 0, none⟩), .int .i64 now, rcV r] w (OPost w0 D (L.set i (resI c (putRF now r l))) (.int .i64 (putE now r)) w) := by
 obtain ⟨rn, rk, rt, ra, ro⟩ := r
 have hB : recB now ⟨rn, rk, rt, ra, ro⟩ = (vldB ⟨rn, rk, rt, ra, ro⟩ && timB now) := by
  rw [recB_eq]; unfold vldB chkF timB; rw [Bool.eq_iff_iff]; simp only [Bool.and_eq_true]; exact ⟨fun ⟨h1, ⟨⟨⟨h2, h3⟩, h4⟩, h5⟩, h6⟩ => ⟨⟨⟨⟨h6, h4⟩, h5⟩, h1⟩, h2, h3⟩, fun ⟨⟨⟨⟨h6, h4⟩, h5⟩, h1⟩, h2, h3⟩ => ⟨h1, ⟨⟨⟨h2, h3⟩, h4⟩, h5⟩, h6⟩⟩
 have key : ∀ (b : Bool) (l' : List En) (e : Int), recB now ⟨rn, rk, rt, ra, ro⟩ = b → putRF now ⟨rn, rk, rt, ra, ro⟩ l = l' → putE now ⟨rn, rk, rt, ra, ro⟩ = e → Calls Tryz.prog 23 #[.pointer (some ⟨c, 0, none⟩), .int .i64 now, rcV ⟨rn, rk, rt, ra, ro⟩] w (OPost w0 D (L.set i (resI c l')) (.int .i64 e) w) → Calls Tryz.prog 23 #[.pointer (some ⟨c, 0, none⟩), .int .i64 now, rcV ⟨rn, rk, rt, ra, ro⟩] w (OPost w0 D (L.set i (resI c (putRF now ⟨rn, rk, rt, ra, ro⟩ l))) (.int .i64 (putE now ⟨rn, rk, rt, ra, ro⟩)) w) := fun b l' e _ h1 h2 h => by rw [h1, h2]; exact h
 cases hv : vldB ⟨rn, rk, rt, ra, ro⟩ with
 | false =>
  rw [hv, Bool.false_and] at hB
  exact key false l 200 hB (by simp [putRF, hB]) (by simp [putE, hB]) (iput_1 now rn rk rt ra ro h i hi hl hv)
 | true =>
  cases ht : timB now with
  | false =>
   rw [hv, ht, Bool.true_and] at hB
   exact key false l 200 hB (by simp [putRF, hB]) (by simp [putE, hB]) (iput_2 now rn rk rt ra ro h i hi hl hv ht)
  | true =>
   rw [hv, ht, Bool.true_and] at hB
   by_cases hz : rt = 0
   ·
    exact key true l 0 hB (by simp [putRF, hz]) (by simp [putE, hB]) (iput_3 now rn rk rt ra ro h i hi hl hv hz ht)
   ·
    have hvt : (0 ≤ rt) ∧ rt ≤ 1000 := by
     unfold vldB at hv; simp only [Bool.and_eq_true, decide_eq_true_eq] at hv; exact ⟨hv.1.1.2, hv.1.2⟩
    exact key true _ 0 hB (by simp [putRF, hB, hz]) (by simp [putE, hB]) (iput_4 now rn rk rt ra ro h i hi hl hv hvt.1 hvt.2 ht hz)
end

end Go.Proofs.YtbolfkojebbejaaGreatDoor

namespace Go.Proofs.YtbolfkojebbejaaGreatDoor
open Go.RowKit Go.Sort

def atD (r : Rc) (o : List Rc) : Nat → Nat
 | 0 => 0
 | k + 1 => if ahdB r (o.getD k ⟨⟨#[]⟩, 0, 0, 0, ⟨#[]⟩⟩) then atD r o k else k + 1
def insR (r : Rc) (o : List Rc) : List Rc := o.take (atD r o o.length) ++ r :: o.drop (atD r o o.length)
def stepI (now : Int) (s : ByteArray) (o : List Rc) (e : En) : List Rc := if hitB now s e && decide (e.kd ≠ 0) then insR (rcOf now e) o else o
def lookI (now : Int) (s : ByteArray) (l : List En) : List Rc := l.foldl (stepI now s) []
theorem lookI_take {now : Int} {s : ByteArray} {l : List En} {k : Nat} (hk : k < l.length) : lookI now s (l.take (k + 1)) = stepI now s (lookI now s (l.take k)) l[k] := by
 unfold lookI
 rw [List.take_succ_eq_append_getElem hk, List.foldl_append]; rfl
theorem knwD_take {now : Int} {s : ByteArray} {l : List En} {k : Nat} (hk : k < l.length) : knwD now s (l.take (k + 1)) = (knwD now s (l.take k) || hitB now s l[k]) := by
 unfold knwD
 rw [List.take_succ_eq_append_getElem hk, List.any_append]; simp
theorem atD_le (r : Rc) (o : List Rc) : ∀ k, atD r o k ≤ k
 | 0 => Nat.le_refl _
 | k + 1 => by
  have := atD_le r o k
  simp only [atD]; split <;> omega
theorem insR_len (r : Rc) (o : List Rc) : (insR r o).length = o.length + 1 := by
 have := atD_le r o o.length
 unfold insR; simp; omega
theorem lookI_len (now : Int) (s : ByteArray) (l : List En) : ∀ k, (lookI now s (l.take k)).length ≤ k
 | 0 => by simp [lookI]
 | k + 1 => by
  have ih := lookI_len now s l k
  by_cases hk : k < l.length
  ·
   rw [lookI_take hk]
   unfold stepI; split
   ·
    rw [insR_len]; omega
   ·
    omega
  ·
   rw [List.take_of_length_le (by omega)]
   rw [List.take_of_length_le (by omega)] at ih
   omega
theorem atD_sorted {r : Rc} {o : List Rc} (h : sortedR o) : ∀ k, k ≤ o.length → (∀ (j : Nat) (hj : j < o.length), j < k → atD r o k ≤ j → ltR r o[j]) ∧ (∀ (j : Nat) (hj : j < o.length), j < atD r o k → ¬ ltR r o[j])
 | 0, _ => ⟨fun j hj h => by omega, fun j hj h => by simp [atD] at h⟩
 | k + 1, hk => by
  obtain ⟨h1, h2⟩ := atD_sorted h k (by omega)
  have hg : o.getD k ⟨⟨#[]⟩, 0, 0, 0, ⟨#[]⟩⟩ = o[k] := by simp [List.getD_eq_getElem?_getD, List.getElem?_eq_getElem (show k < o.length by omega)]
  have hd : atD r o (k + 1) = if ahdB r o[k] then atD r o k else k + 1 := by simp only [atD, hg]
  cases hb : ahdB r o[k] with
  | true =>
   rw [hd, hb, if_pos rfl]
   refine ⟨fun j hj hjk ha => ?_, h2⟩
   by_cases e : j = k
   ·
    subst e; simpa [ahdB] using hb
   ·
    exact h1 j hj (by omega) ha
  | false =>
   rw [hd, hb, if_neg (by decide)]
   have hk' : ¬ ltR r o[k] := by simpa [ahdB] using hb
   refine ⟨fun j hj hjk ha => by omega, fun j hj hjk => ?_⟩
   by_cases e : j = k
   ·
    subst e; exact hk'
   ·
    exact ltR_neg hk' (List.pairwise_iff_getElem.1 h j k hj (by omega) (by omega))
theorem insR_sorted {r : Rc} {o : List Rc} (h : sortedR o) : sortedR (insR r o) := by
 obtain ⟨h1, h2⟩ := atD_sorted (r := r) h o.length (Nat.le_refl _)
 unfold insR
 have hq := atD_le r o o.length
 generalize atD r o o.length = q at h1 h2 hq ⊢
 have hsplit : o = o.take q ++ o.drop q := (List.take_append_drop q o).symm
 have ho := h
 rw [hsplit] at ho
 obtain ⟨p1, p2, p3⟩ := List.pairwise_append.1 ho
 refine List.pairwise_append.2 ⟨p1, List.pairwise_cons.2 ⟨fun y hy => ?_, p2⟩, fun x hx y hy => ?_⟩
 ·
  obtain ⟨j, hj, rfl⟩ := List.getElem_of_mem hy
  rw [List.length_drop] at hj
  have hlt := h1 (q + j) (by omega) (by omega) (by omega)
  rw [List.getElem_drop]
  exact fun hc => ltR_irrefl _ (ltR_trans hlt hc)
 ·
  rcases List.mem_cons.1 hy with rfl | hy
  ·
   obtain ⟨j, hj, rfl⟩ := List.getElem_of_mem hx
   rw [List.length_take] at hj
   rw [List.getElem_take]
   exact h2 j (by omega) (by omega)
  ·
   exact p3 x hx y hy
theorem insR_perm (r : Rc) (o : List Rc) : (insR r o).Perm (r :: o) := by
 unfold insR
 refine List.perm_middle.trans ?_
 rw [List.take_append_drop]
theorem lookI_is (now : Int) (s : ByteArray) : ∀ (l : List En) (o : List Rc), sortedR o → sortedR (l.foldl (stepI now s) o) ∧ (l.foldl (stepI now s) o).Perm (recs now s l ++ o)
 | [], o, h => ⟨h, List.Perm.refl _⟩
 | e :: l, o, h => by
  rw [List.foldl_cons]
  have hr : recs now s (e :: l) = if hitB now s e && decide (e.kd ≠ 0) then rcOf now e :: recs now s l else recs now s l := by
   unfold recs
   rw [List.filter_cons]
   split <;> simp
  cases hb : (hitB now s e && decide (e.kd ≠ 0)) with
  | true =>
   have hs : stepI now s o e = insR (rcOf now e) o := by unfold stepI; rw [hb]; rfl
   obtain ⟨i1, i2⟩ := lookI_is now s l (insR (rcOf now e) o) (insR_sorted h)
   rw [hs, hr, hb, if_pos rfl]
   refine ⟨i1, i2.trans ?_⟩
   refine (List.Perm.append_left _ (insR_perm _ _)).trans ?_
   exact List.perm_middle
  | false =>
   have hs : stepI now s o e = o := by unfold stepI; rw [hb]; rfl
   obtain ⟨i1, i2⟩ := lookI_is now s l o h
   rw [hs, hr, hb, if_neg (by decide)]
   exact ⟨i1, i2⟩
theorem lookI_eq {now : Int} {s : ByteArray} {l : List En} (h : l.Pairwise aprt) : lookI now s l = lookD now s l := by
 obtain ⟨h1, h2⟩ := lookI_is now s l [] (by unfold sortedR; exact List.Pairwise.nil)
 rw [List.append_nil] at h2
 exact srt_unique h2 h1 (recs_sep h)
theorem hit_c {now : Int} {s nm : ByteArray} {kd ad ex : Int} {to : ByteArray} {b1 b2 : Bool} (h1 : (nm.toList == s.toList) = b1) (h2 : decide (now < ex) = b2) : hitB now s ⟨nm, kd, ad, to, ex⟩ = (b1 && b2) := by
 unfold hitB liveB; rw [h1, h2]
theorem stepI_no {now : Int} {s : ByteArray} {o : List Rc} {e : En} (h : hitB now s e = false) : stepI now s o e = o := by unfold stepI; rw [h]; rfl
theorem stepI_neg {now : Int} {s : ByteArray} {o : List Rc} {e : En} (h : e.kd = 0) : stepI now s o e = o := by unfold stepI; simp [h]
theorem stepI_yes {now : Int} {s : ByteArray} {o : List Rc} {e : En} (h : hitB now s e = true) (h2 : e.kd ≠ 0) : stepI now s o e = insR (rcOf now e) o := by unfold stepI; simp [h, h2]
theorem elemRc : Tryz.prog.underlying 50 = some (.slice (Tryz.prog.elem 50)) := by kernel_rfl
theorem sizeRc (w : World) : (sizeOf (Tryz.prog.elem 50)).run Tryz.prog w = .ok 5 w := by kernel_rfl
theorem cRc_one (l : List Rc) : ∀ u ∈ l.flatMap cRc, u.oneCell' = true := by
 intro u hu
 obtain ⟨e, _, he⟩ := List.mem_flatMap.1 hu
 exact oneR e u he
section
attribute [local go_sem ↓] run_bsRc
theorem ilook_w {w : World} {c n cap : Nat} {a : Option Addr} {l : List En} (now : Int) (s : ByteArray) (hc : w.cell? ⟨c, 0, none⟩ = some (.slice a n cap)) (hr : w.ownsRow 0 141 6 (.slice a n cap) n (l.flatMap cIt)) (hn : l.length = n) (hl : n ≤ 32) :
  Calls Tryz.prog 27 #[.pointer (some ⟨c, 0, none⟩), .int .i64 now, .string s] w (LookD w none0 [] (lookI now s l) (knwD now s l) w) := by
 have HO := Hi (Own.nil w none0)
 have HC := Hi hc
 have HR := Hi hr
 have HN := Hi hn
 clear hr hn
 go_enter Tryz.func27, Tryz.ntmps27
 go_wp2
 clear hc
 have hO := HO.out.rowNew 49 5
 replace HO := Hi (show Own w none0 w [rowR (.slice none 0 0) 49 5 0 []] from hO)
 clear hO
 go_loopw [8, 9, 10] (fun ov kv iv wr => ∃ (k m cap2 : Nat) (a2 : Option Addr), k ≤ n ∧ iv = .int .i64 k ∧ (lookI now s (l.take k)).length = m ∧ ov = .slice a2 m cap2 ∧ kv = .bool (knwD now s (l.take k)) ∧ Own w none0 wr [rowR (.slice a2 m cap2) 49 5 m ((lookI now s (l.take k)).flatMap cRc)]) (fun _ _ iv _ => n - (intOf iv).toNat)
 case atStart => exact ⟨0, 0, 0, none, Nat.zero_le _, rfl, rfl, rfl, rfl, HO.out⟩
 case round =>
  obtain ⟨k, m, cap2, a2, hk, rfl, hml, rfl, rfl, hO⟩ := hrel
  replace HO := Hi hO
  clear hO
  have c1 : wr.cell? ⟨c, 0, none⟩ = some (.slice a n cap) := keep HO.out.below HC.out
  by_cases hlt : k < n
  ·
   obtain ⟨g, rfl⟩ := row_some HR.out (by omega)
   have hkl : k < l.length := by have := HN.out; omega
   have yc : ∀ q u, q < 6 → (cIt l[k])[q]? = some u → wr.cell? ⟨g, k * 6 + q, none⟩ = some u := fun q u hq hu => keep HO.out.below ((row_cells HR.out).1 _ _ (by rw [flat_getR cIt 6 (fun _ => rfl) l k hkl q hq]; exact hu))
   have HLI := Hi (lookI_take (now := now) (s := s) hkl)
   have HKI := Hi (knwD_take (now := now) (s := s) hkl)
   have HM := Hi (show m ≤ k by rw [← hml]; exact lookI_len _ _ _ _)
   have HML := Hi hml
   clear hml
   generalize lookI now s (l.take k) = o at *
   generalize knwD now s (l.take k) = kn at *
   generalize l[k] = x at *
   obtain ⟨nm, kd, ad, to, ex⟩ := x
   have y0 : wr.cell? ⟨g, k * 6, none⟩ = some (.string nm) := yc 0 _ (by decide) rfl
   have y1 : wr.cell? ⟨g, k * 6 + 1, none⟩ = some (.int .i64 kd) := yc 1 _ (by decide) rfl
   have y2 : wr.cell? ⟨g, k * 6 + 2, none⟩ = some (.int .i64 0) := yc 2 _ (by decide) rfl
   have y3 : wr.cell? ⟨g, k * 6 + 3, none⟩ = some (.int .i64 ad) := yc 3 _ (by decide) rfl
   have y4 : wr.cell? ⟨g, k * 6 + 4, none⟩ = some (.string to) := yc 4 _ (by decide) rfl
   have y5 : wr.cell? ⟨g, k * 6 + 5, none⟩ = some (.int .i64 ex) := yc 5 _ (by decide) rfl
   clear yc hkl
   obtain ⟨x21, hx21, bx, hbx, hO⟩ := HO.out.allocE (.cells #[.string ⟨#[]⟩, .int .i64 0, .int .i64 0, .int .i64 0, .string ⟨#[]⟩, .int .i64 0] 141)
   replace HO := Hi (show Own _ _ _ [rowR (.slice a2 m cap2) 49 5 m (o.flatMap cRc), blkR bx (.cells #[.string ⟨#[]⟩, .int .i64 0, .int .i64 0, .int .i64 0, .string ⟨#[]⟩, .int .i64 0] 141)] from hO)
   clear hO
   obtain ⟨x28, x34, x39, x43, x46, x48, hx28, hx34, hx39, hx43, hx46, hx48, k1_0_22, lk1_0_22, k1_1_29, lk1_1_29, k1_2_35, lk1_2_35, k1_3_40, lk1_3_40, k1_4_44, lk1_4_44, k1_5_47, lk1_5_47, hO⟩ := HO.out.steps6 1 rfl (.string nm) (.int .i64 kd) (.int .i64 0) (.int .i64 ad) (.string to) (.int .i64 ex)
   replace HO := Hi (show Own _ _ _ [_, blkR bx (.cells #[.string nm, .int .i64 kd, .int .i64 0, .int .i64 ad, .string to, .int .i64 ex] 141)] from hO)
   clear hO
   obtain ⟨z1_0, z1_1, z1_2, z1_3, z1_4, z1_5⟩ := HO.out.c6 1 rfl
   cases hn : nm.toList == s.toList with
   | false =>
    have HS1 := Hi (show lookI now s (l.take (k + 1)) = o from HLI.out.trans (stepI_no (hit_c hn rfl)))
    have HS2 := Hi (show knwD now s (l.take (k + 1)) = kn from by rw [HKI.out, hit_c hn rfl]; simp)
    clear HLI HKI
    go_wp2
    go_roundw
    case rel => exact ⟨k + 1, m, cap2, a2, by omega, by go_num, by rw [HS1.out]; exact HML.out, rfl, by rw [HS2.out], by rw [HS1.out]; exact HO.out.take 1⟩
    case measure => simp [intOf]; omega
   | true =>
    by_cases he : now < ex
    ·
     have hd : decide (now < ex) = true := by simpa using he
     by_cases hk0 : kd = 0
     ·
      subst hk0
      have HS1 := Hi (show lookI now s (l.take (k + 1)) = o from HLI.out.trans (stepI_neg rfl))
      have HS2 := Hi (show knwD now s (l.take (k + 1)) = true from by rw [HKI.out, hit_c hn hd]; simp)
      clear HLI HKI
      go_wp2
      go_roundw
      case rel => exact ⟨k + 1, m, cap2, a2, by omega, by go_num, by rw [HS1.out]; exact HML.out, rfl, by rw [HS2.out], by rw [HS1.out]; exact HO.out.take 1⟩
      case measure => simp [intOf]; omega
     ·
      have hkb : (kd == 0) = false := by simpa using hk0
      have HS1 := Hi (show lookI now s (l.take (k + 1)) = insR ⟨nm, kd, wrap64 (ex - now), ad, to⟩ o from HLI.out.trans (stepI_yes (hit_c hn hd) hk0))
      have HS2 := Hi (show knwD now s (l.take (k + 1)) = true from by rw [HKI.out, hit_c hn hd]; simp)
      clear HLI HKI hk0
      obtain ⟨x49, hx49, br, hbr, hO⟩ := HO.out.allocE (.cells #[.string ⟨#[]⟩, .int .i64 0, .int .i64 0, .int .i64 0, .string ⟨#[]⟩] 49)
      replace HO := Hi (show Own _ _ _ [_, _, blkR br (.cells #[.string ⟨#[]⟩, .int .i64 0, .int .i64 0, .int .i64 0, .string ⟨#[]⟩] 49)] from hO)
      clear hO
      obtain ⟨x55, x60, x64, x67, x69, hx55, hx60, hx64, hx67, hx69, k2_0_50, lk2_0_50, k2_1_56, lk2_1_56, k2_2_61, lk2_2_61, k2_3_65, lk2_3_65, k2_4_68, lk2_4_68, hO⟩ := HO.out.steps5 2 rfl (.string nm) (.int .i64 kd) (.int .i64 0) (.int .i64 ad) (.string to)
      replace HO := Hi (show Own _ _ _ [_, _, blkR br (.cells #[.string nm, .int .i64 kd, .int .i64 0, .int .i64 ad, .string to] 49)] from hO)
      clear hO
      have ⟨z2_2, y2_2⟩ : x69.cell? _ = some (.int .i64 0) ∧ _ := HO.out.cf 2 rfl 2 rfl
      have z1_5t : x69.cell? _ = some (.int .i64 ex) := HO.out.cell 1 rfl 5 rfl
      obtain ⟨x70, hx70, hO⟩ := HO.out.setE 2 rfl 2 (.int .i64 (wrap64 (ex - now)))
      replace HO := Hi (show Own _ _ _ [_, _, blkR br (.cells #[.string nm, .int .i64 kd, .int .i64 (wrap64 (ex - now)), .int .i64 ad, .string to] 49)] from hO)
      clear hO
      go_wp2
      clear y0 y1 y2 y3 y4 y5 hx21 hbx k1_0_22 lk1_0_22 hx28 k1_1_29 lk1_1_29 hx34 k1_2_35 lk1_2_35 hx39 k1_3_40 lk1_3_40 hx43 k1_4_44 lk1_4_44 hx46 k1_5_47 lk1_5_47 hx48 z1_0 z1_1 z1_2 z1_3 z1_4 z1_5 hx49 hbr k2_0_50 lk2_0_50 hx55 k2_1_56 lk2_1_56 hx60 k2_2_61 lk2_2_61 hx64 k2_3_65 lk2_3_65 hx67 k2_4_68 lk2_4_68 hx69 z2_2 y2_2 z1_5t hx70
      clear c1
      obtain ⟨tt, htt⟩ : ∃ y, wrap64 (ex - now) = y := ⟨_, rfl⟩
      rw [htt] at HO HS1
      clear htt hd he hn
      replace HO := Hi (show Own w none0 x70 [rowR (.slice a2 m cap2) 49 5 m (o.flatMap cRc), blkR bx (.cells #[.string nm, .int .i64 kd, .int .i64 0, .int .i64 ad, .string to, .int .i64 ex] 141), blkR br (.cells #[.string nm, .int .i64 kd, .int .i64 tt, .int .i64 ad, .string to] 49)] from HO.out)
      have HA0 := Hi (show insR ⟨nm, kd, tt, ad, to⟩ o = o.take (atD ⟨nm, kd, tt, ad, to⟩ o m) ++ ⟨nm, kd, tt, ad, to⟩ :: o.drop (atD ⟨nm, kd, tt, ad, to⟩ o m) by rw [← HML.out]; rfl)
      go_loopw [13] (fun av wq => ∃ j : Nat, j ≤ m ∧ av = .int .i64 j ∧ atD ⟨nm, kd, tt, ad, to⟩ o m = atD ⟨nm, kd, tt, ad, to⟩ o j ∧ Own w none0 wq [rowR (.slice a2 m cap2) 49 5 m (o.flatMap cRc), blkR bx (.cells #[.string nm, .int .i64 kd, .int .i64 0, .int .i64 ad, .string to, .int .i64 ex] 141), blkR br (.cells #[.string nm, .int .i64 kd, .int .i64 tt, .int .i64 ad, .string to] 49)]) (fun av _ => (intOf av).toNat)
      case atStart => exact ⟨m, Nat.le_refl _, rfl, rfl, HO.out⟩
      case round =>
       obtain ⟨j, hj, rfl, hat, hO⟩ := hrel
       replace HO := Hi hO
       clear hO
       have HAT := Hi hat
       clear hat
       by_cases hj0 : 0 < j
       ·
        obtain ⟨i, rfl⟩ : ∃ i, j = i + 1 := ⟨j - 1, by omega⟩
        have hil : i < o.length := by have := HML.out; omega
        have HAE := Hi (show atD ⟨nm, kd, tt, ad, to⟩ o (i + 1) = if ahdB ⟨nm, kd, tt, ad, to⟩ o[i] then atD ⟨nm, kd, tt, ad, to⟩ o i else i + 1 by simp only [atD]; rw [show o.getD i ⟨⟨#[]⟩, 0, 0, 0, ⟨#[]⟩⟩ = o[i] by simp [List.getD_eq_getElem?_getD, List.getElem?_eq_getElem hil]])
        have hrw := HO.out.row 0 rfl
        obtain ⟨g2, rfl⟩ := row_some hrw (by omega)
        have zc : ∀ q u, q < 5 → (cRc o[i])[q]? = some u → wr.cell? ⟨g2, i * 5 + q, none⟩ = some u := fun q u hq hu => (row_cells hrw).1 _ _ (by rw [flat_getR cRc 5 (fun _ => rfl) o i hil q hq]; exact hu)
        generalize hz : o[i] = z at *
        obtain ⟨z0, z1, z2, z3, z4⟩ := z
        clear hz hrw hil
        have f0 := cell_regrown (show wr.cell? ⟨g2, i * 5, none⟩ = some (.string z0) from zc 0 _ (by decide) rfl)
        have f1 := cell_regrown (show wr.cell? ⟨g2, i * 5 + 1, none⟩ = some (.int .i64 z1) from zc 1 _ (by decide) rfl)
        have f2 := cell_regrown (show wr.cell? ⟨g2, i * 5 + 2, none⟩ = some (.int .i64 z2) from zc 2 _ (by decide) rfl)
        have f3 := cell_regrown (show wr.cell? ⟨g2, i * 5 + 3, none⟩ = some (.int .i64 z3) from zc 3 _ (by decide) rfl)
        have f4 := cell_regrown (show wr.cell? ⟨g2, i * 5 + 4, none⟩ = some (.string z4) from zc 4 _ (by decide) rfl)
        have g2_0 := cell_regrown (show wr.cell? _ = some (.string nm) from HO.out.cell 2 rfl 0 rfl)
        have g2_1 := cell_regrown (show wr.cell? _ = some (.int .i64 kd) from HO.out.cell 2 rfl 1 rfl)
        have g2_2 := cell_regrown (show wr.cell? _ = some (.int .i64 tt) from HO.out.cell 2 rfl 2 rfl)
        have g2_3 := cell_regrown (show wr.cell? _ = some (.int .i64 ad) from HO.out.cell 2 rfl 3 rfl)
        have g2_4 := cell_regrown (show wr.cell? _ = some (.string to) from HO.out.cell 2 rfl 4 rfl)
        clear zc
        have hmk := HM.out
        have hw1 : IntKind.i64.wrap (((i + 1 : Nat) : Int) - 1) = (i : Int) := by rw [show (((i + 1 : Nat) : Int) - 1) = (i : Int) by omega]; exact IntWalk.i64_in _ (by omega)
        have hd1 : decide ((0 : Int) < ((i + 1 : Nat) : Int)) = true := decide_eq_true (by omega)
        have hd2 : ¬ (((i + 1 : Nat) : Int)) ≤ 0 := by omega
        cases hb : ahdB ⟨nm, kd, tt, ad, to⟩ ⟨z0, z1, z2, z3, z4⟩ with
        | true =>
         have HB := Hi hb
         clear hb
         have HQ := Hi (show atD ⟨nm, kd, tt, ad, to⟩ o m = atD ⟨nm, kd, tt, ad, to⟩ o i by rw [HAT.out, HAE.out, HB.out]; rfl)
         clear HAE
         go_wp2
         refine wp_region_B (by kernel_rfl) (by kernel_rfl) ?_
         repeat (go_big_quiet_step ((go_at_call 74; exact Calls.regrown_of (ahead_r HB.out _))))
         refine wpQuiet_nil ?_
         intro x83 hbw
         have hO := HO.out.stay hbw
         clear f0 f1 f2 f3 f4 g2_0 g2_1 g2_2 g2_3 g2_4
         replace HO := Hi (show Own _ _ _ [rowR (.slice (some ⟨g2, 0, none⟩) m cap2) 49 5 m (o.flatMap cRc), _, _] from hO)
         clear hO hbw
         go_wp2
         go_roundw
         case rel => exact ⟨i, by omega, by go_num, HQ.out, HO.out⟩
         case measure => simp [intOf]
        | false =>
         have HB := Hi hb
         clear hb
         have HQ := Hi (show atD ⟨nm, kd, tt, ad, to⟩ o m = i + 1 by rw [HAT.out, HAE.out, HB.out]; rfl)
         clear HAE
         go_wp2
         refine wp_region_B (by kernel_rfl) (by kernel_rfl) ?_
         repeat (go_big_quiet_step ((go_at_call 74; exact Calls.regrown_of (ahead_r HB.out _))))
         refine wpQuiet_nil ?_
         intro x83 hbw
         have hO := HO.out.stay hbw
         clear f0 f1 f2 f3 f4 g2_0 g2_1 g2_2 g2_3 g2_4
         replace HO := Hi hO
         clear hO hbw
         have HXL := Hi (show (o.flatMap cRc).length = m * 5 from (HO.out.row 0 rfl).1)
         have HIN := Hi (show (insR ⟨nm, kd, tt, ad, to⟩ o).flatMap cRc = (o.flatMap cRc).take ((i + 1) * 5) ++ cRc ⟨nm, kd, tt, ad, to⟩ ++ (o.flatMap cRc).drop ((i + 1) * 5) by rw [HA0.out, HQ.out, List.flatMap_append, List.flatMap_cons, flat_take cRc 5 (fun _ => rfl), flat_dropK cRc 5 (fun _ => rfl), List.append_assoc])
         have HIL := Hi (show (insR ⟨nm, kd, tt, ad, to⟩ o).length = m + 1 by rw [insR_len, HML.out])
         obtain ⟨u1, hu1, hr1⟩ := row_upto (P := Tryz.prog) 50 elemRc sizeRc (HO.out.row 0 rfl) (i + 1) (by omega)
         obtain ⟨u2, hu2, hr2⟩ := row_from (P := Tryz.prog) 50 elemRc sizeRc (HO.out.row 0 rfl) (i + 1) (by omega)
         have HU1 := Hi hu1
         have HU2 := Hi hu2
         have HR1 := Hi hr1
         have HR2 := Hi hr2
         clear hu1 hu2 hr1 hr2
         go_wp2
         generalize hΓ : ghA w none0 [rowR (.slice (some ⟨g2, 0, none⟩) m cap2) 49 5 m (o.flatMap cRc), blkR bx (.cells #[.string nm, .int .i64 kd, .int .i64 0, .int .i64 ad, .string to, .int .i64 ex] 141), blkR br (.cells #[.string nm, .int .i64 kd, .int .i64 tt, .int .i64 ad, .string to] 49)] 49 5 (.slice none 0 0) [(0, []), (0 + (i + 1), [] ++ (o.flatMap cRc).take ((i + 1) * 5)), (0 + (i + 1) + 1, [] ++ (o.flatMap cRc).take ((i + 1) * 5) ++ cRc ⟨nm, kd, tt, ad, to⟩), (0 + (i + 1) + 1 + (m - (i + 1)), [] ++ (o.flatMap cRc).take ((i + 1) * 5) ++ cRc ⟨nm, kd, tt, ad, to⟩ ++ (o.flatMap cRc).drop ((i + 1) * 5))] = Γ
         have HST := Hi (show Γ.inv [] x83 by rw [← hΓ]; exact ghA_start (HO.out.rowNew 49 5))
         have q2_0 : ∀ q : Γ.Wd, q.w.cell? ⟨br, 0, none⟩ = some (.string nm) := by rw [← hΓ]; exact ghA_cell (c := #[.string nm, .int .i64 kd, .int .i64 tt, .int .i64 ad, .string to]) (t := 49) 2 rfl 0 rfl
         have q2_1 : ∀ q : Γ.Wd, q.w.cell? ⟨br, 1, none⟩ = some (.int .i64 kd) := by rw [← hΓ]; exact ghA_cell (c := #[.string nm, .int .i64 kd, .int .i64 tt, .int .i64 ad, .string to]) (t := 49) 2 rfl 1 rfl
         have q2_2 : ∀ q : Γ.Wd, q.w.cell? ⟨br, 2, none⟩ = some (.int .i64 tt) := by rw [← hΓ]; exact ghA_cell (c := #[.string nm, .int .i64 kd, .int .i64 tt, .int .i64 ad, .string to]) (t := 49) 2 rfl 2 rfl
         have q2_3 : ∀ q : Γ.Wd, q.w.cell? ⟨br, 3, none⟩ = some (.int .i64 ad) := by rw [← hΓ]; exact ghA_cell (c := #[.string nm, .int .i64 kd, .int .i64 tt, .int .i64 ad, .string to]) (t := 49) 2 rfl 3 rfl
         have q2_4 : ∀ q : Γ.Wd, q.w.cell? ⟨br, 4, none⟩ = some (.string to) := by rw [← hΓ]; exact ghA_cell (c := #[.string nm, .int .i64 kd, .int .i64 tt, .int .i64 ad, .string to]) (t := 49) 2 rfl 4 rfl
         have HΓ := Hi hΓ
         clear hΓ
         have ne : Nonempty Γ.Wd := ⟨⟨[], x83, HST.out⟩⟩
         refine wp_region_H Γ 12 [4, 7, 11] (by kernel_rfl) (by kernel_rfl) (by kernel_rfl) (by kernel_rfl) HST.out ?_
         simp only [List.take, List.drop]
         iterate 3 (first | (refine wpH_want (by kernel_rfl) (by kernel_rfl) rfl rfl ?_; intro K hK; go_big_quiet_op; go_big_quiet_on) | (refine wpH_is (by kernel_rfl) (by kernel_rfl) rfl _ (fun _ w _ => rfl) ?_; simp only [Act.put, l_T, l_S, l_Z]))
         refine wpH_is (by kernel_rfl) (by kernel_rfl) rfl (u1) (fun _ w _ => run_v_ok (HU1.out w)) ?_
         simp only [Act.put, l_T, l_S, l_Z]
         refine wpH_chainX 0 (gnth 0) (gnth_lasts _ _) (by kernel_rfl) (by kernel_rfl) (fun a' g hg hgl he => ?_) (fun d hd => ?_)
         ·
          obtain ⟨hs, hx, _⟩ := he
          rw [← HΓ.out] at hg ⊢
          have hs' : a'.eval (.tmp 68) = g.vs.getLastD (.slice none 0 0) := (last_none hgl hs)
          have hR : Reads g.w (a'.eval (.tmp 71)) (i + 1) ((o.flatMap cRc).take ((i + 1) * 5)) := by
           have hx' : a'.eval (.tmp 71) = u1 := hx
           rw [hx']
           exact HR1.out g.w _ ((ghA_rest hg).row 0 rfl)
          exact ghA_app 0 (.tmp 68) (.tmp 71) 50 rfl Tryz.underlying50 infoRc rfl (by decide) rfl rfl (by have := HXL.out; rw [List.length_take]; omega) (fun u hu => cRc_one o u (List.mem_of_mem_take hu)) (by have := HM.out; unfold maxLen; omega) (by have := HM.out; omega) hg hgl hs' hR
         cases hd
         simp only [List.nil_append]
         iterate 1 (first | (refine wpH_want (by kernel_rfl) (by kernel_rfl) rfl rfl ?_; intro K hK; go_big_quiet_op; go_big_quiet_on) | (refine wpH_is (by kernel_rfl) (by kernel_rfl) rfl _ (fun _ w _ => rfl) ?_; simp only [Act.put, l_T, l_S, l_Z]))
         refine wpH_ex (gblk Γ 0 (fun b => .slice (some ⟨b, 0, none⟩) 1 1) (.cells #[.string nm, .int .i64 kd, .int .i64 tt, .int .i64 ad, .string to] 49)) (gblk_lasts _ _ _ _) (by kernel_rfl) (by kernel_rfl) (fun a' g hg he => ?_) (fun d hd => ?_)
         ·
          obtain ⟨hag, _⟩ := he
          have hag' : a'.eval (.tmp 73) = .agg #[.string nm, .int .i64 kd, .int .i64 tt, .int .i64 ad, .string to] := hag
          refine wp_of_value (v := .slice (some ⟨g.w.heap.size, 0, none⟩) 1 1) (w' := g.w.alloc (.cells #[.string nm, .int .i64 kd, .int .i64 tt, .int .i64 ad, .string to] 49)) (run_v_ok ?_) ⟨_, rfl, (Below.refl _ _).alloc (Nat.le_refl _) _, ?_⟩
          ·
           simp only [List.map_toArray, List.map_cons, List.map_nil, hag']
           exact run_bsRc _ _ _ _ _ _
          ·
           have hlt : ∀ b, Γ.own g.vs b → b < g.w.heap.size := by rw [← HΓ.out] at hg ⊢; exact ghA_lt hg
           exact gblk_new (V := fun b => .slice (some ⟨b, 0, none⟩) 1 1) Γ hlt (Nat.zero_le _)
         cases hd
         simp only [List.cons_append, List.nil_append]
         refine wpH_chainX 1 (gnth 1) (gnth_lasts _ _) (by kernel_rfl) (by kernel_rfl) (fun a' g hg hgl he => ?_) (fun d hd => ?_)
         ·
          obtain ⟨hs, hx, _⟩ := he
          rw [← HΓ.out] at hg ⊢
          have hs' : a'.eval (.tmp 72) = g.vs.getLastD (.slice none 0 0) := (ghA_last (k := 0) (vs := g.vs) (w := g.w) hs hgl).symm
          have hR : Reads g.w (a'.eval (.tmp 74)) 1 (cRc ⟨nm, kd, tt, ad, to⟩) := by
           obtain ⟨b, hb, _, hblk, _⟩ := (show gblk Γ 0 (fun b => .slice (some ⟨b, 0, none⟩) 1 1) (.cells #[.string nm, .int .i64 kd, .int .i64 tt, .int .i64 ad, .string to] 49) (a'.eval (.tmp 74)) g from hx)
           rw [hb]
           exact reads_blk hblk
          exact ghA_app 1 (.tmp 72) (.tmp 74) 50 rfl Tryz.underlying50 infoRc rfl (by decide) rfl rfl rfl (oneR ⟨nm, kd, tt, ad, to⟩) (by have := HM.out; unfold maxLen; omega) (by have := HM.out; omega) hg hgl hs' hR
         cases hd
         simp only [List.cons_append, List.nil_append]
         iterate 2 (first | (refine wpH_want (by kernel_rfl) (by kernel_rfl) rfl rfl ?_; intro K hK; go_big_quiet_op; go_big_quiet_on) | (refine wpH_is (by kernel_rfl) (by kernel_rfl) rfl _ (fun _ w _ => rfl) ?_; simp only [Act.put, l_T, l_S, l_Z]))
         refine wpH_is (by kernel_rfl) (by kernel_rfl) rfl (u2) (fun _ w _ => run_v_ok (HU2.out w)) ?_
         simp only [Act.put, l_T, l_S, l_Z]
         refine wpH_chainX 2 (gnth 2) (gnth_lasts _ _) (by kernel_rfl) (by kernel_rfl) (fun a' g hg hgl he => ?_) (fun d hd => ?_)
         ·
          obtain ⟨hs, hx, _⟩ := he
          rw [← HΓ.out] at hg ⊢
          have hs' : a'.eval (.tmp 75) = g.vs.getLastD (.slice none 0 0) := (ghA_last (k := 1) (vs := g.vs) (w := g.w) hs hgl).symm
          have hR : Reads g.w (a'.eval (.tmp 78)) (m - (i + 1)) ((o.flatMap cRc).drop ((i + 1) * 5)) := by
           have hx' : a'.eval (.tmp 78) = u2 := hx
           rw [hx']
           exact HR2.out g.w _ ((ghA_rest hg).row 0 rfl)
          exact ghA_app 2 (.tmp 75) (.tmp 78) 50 rfl Tryz.underlying50 infoRc rfl (by decide) rfl rfl (by have := HXL.out; rw [List.length_drop]; omega) (fun u hu => cRc_one o u (List.mem_of_mem_drop hu)) (by have := HM.out; unfold maxLen; omega) (by have := HM.out; omega) hg hgl hs' hR
         cases hd
         simp only [List.cons_append, List.nil_append]
         refine wpH_nil (by kernel_rfl) (by simp) ?_
         rintro ⟨vs, x96⟩ hg hgl
         rw [← HΓ.out] at hg
         simp only [gexAll, List.drop]
         rintro u72 -
         rintro u74 -
         rintro u75 -
         rintro u79 hlast
         simp only [Act.put, l_T, l_S, l_Z]
         have hO := ghA_at hg 3 hgl rfl
         rw [ghA_last (k := 2) hlast hgl] at hO
         simp only [List.cons_append, List.nil_append] at hO
         replace HO := Hi (show Own _ _ _ [_, _, _, rowR u79 49 5 (0 + (i + 1) + 1 + (m - (i + 1))) ([] ++ (o.flatMap cRc).take ((i + 1) * 5) ++ cRc ⟨nm, kd, tt, ad, to⟩ ++ (o.flatMap cRc).drop ((i + 1) * 5))] from hO)
         clear q2_0 q2_1 q2_2 q2_3 q2_4 ne HST hg hgl HΓ hlast hO
         have hO := HO.out.pick (L' := [rowR u79 49 5 (0 + (i + 1) + 1 + (m - (i + 1))) ([] ++ (o.flatMap cRc).take ((i + 1) * 5) ++ cRc ⟨nm, kd, tt, ad, to⟩ ++ (o.flatMap cRc).drop ((i + 1) * 5))]) [3] (by decide) (fun k R hk => by
          match k, hk with
          | 0, hk => exact ⟨3, rfl, hk⟩)
         have e1 : 0 + (i + 1) + 1 + (m - (i + 1)) = m + 1 := by omega
         have e2 : [] ++ (o.flatMap cRc).take ((i + 1) * 5) ++ cRc ⟨nm, kd, tt, ad, to⟩ ++ (o.flatMap cRc).drop ((i + 1) * 5) = (insR ⟨nm, kd, tt, ad, to⟩ o).flatMap cRc := by rw [HIN.out, List.nil_append]
         rw [e1, e2] at hO
         clear e1 e2 HO
         obtain ⟨a3, cap3, rfl⟩ := row_shape (hO.row 0 rfl)
         have HO := Hi hO
         clear hO
         go_wp2
         go_roundw
         case rel => exact ⟨k + 1, m + 1, cap3, a3, by omega, by go_num, by rw [HS1.out]; exact HIL.out, rfl, by rw [HS2.out], by rw [HS1.out]; exact HO.out⟩
         case measure => simp [intOf]; omega
       ·
        obtain rfl : j = 0 := by omega
        have HQ := Hi (show atD ⟨nm, kd, tt, ad, to⟩ o m = 0 from HAT.out)
        have hd0 : decide ((0 : Int) < ((0 : Nat) : Int)) = false := by simp
        go_wp2
        refine wp_region_B (by kernel_rfl) (by kernel_rfl) ?_
        repeat (go_big_quiet_step (fail))
        refine wpQuiet_nil ?_
        intro x81 hbw
        have hO := HO.out.stay hbw
        replace HO := Hi (show Own _ _ _ [rowR (.slice a2 m cap2) 49 5 m (o.flatMap cRc), _, _] from hO)
        clear hO hbw hd0
        have HXL := Hi (show (o.flatMap cRc).length = m * 5 from (HO.out.row 0 rfl).1)
        have HIN := Hi (show (insR ⟨nm, kd, tt, ad, to⟩ o).flatMap cRc = (o.flatMap cRc).take (0 * 5) ++ cRc ⟨nm, kd, tt, ad, to⟩ ++ (o.flatMap cRc).drop (0 * 5) by rw [HA0.out, HQ.out, List.flatMap_append, List.flatMap_cons, flat_take cRc 5 (fun _ => rfl), flat_dropK cRc 5 (fun _ => rfl), List.append_assoc])
        have HIL := Hi (show (insR ⟨nm, kd, tt, ad, to⟩ o).length = m + 1 by rw [insR_len, HML.out])
        obtain ⟨u1, hu1, hr1⟩ := row_upto (P := Tryz.prog) 50 elemRc sizeRc (HO.out.row 0 rfl) 0 (by omega)
        obtain ⟨u2, hu2, hr2⟩ := row_from (P := Tryz.prog) 50 elemRc sizeRc (HO.out.row 0 rfl) 0 (by omega)
        have HU1 := Hi hu1
        have HU2 := Hi hu2
        have HR1 := Hi hr1
        have HR2 := Hi hr2
        clear hu1 hu2 hr1 hr2
        go_wp2
        generalize hΓ : ghA w none0 [rowR (.slice a2 m cap2) 49 5 m (o.flatMap cRc), blkR bx (.cells #[.string nm, .int .i64 kd, .int .i64 0, .int .i64 ad, .string to, .int .i64 ex] 141), blkR br (.cells #[.string nm, .int .i64 kd, .int .i64 tt, .int .i64 ad, .string to] 49)] 49 5 (.slice none 0 0) [(0, []), (0 + 0, [] ++ (o.flatMap cRc).take (0 * 5)), (0 + 0 + 1, [] ++ (o.flatMap cRc).take (0 * 5) ++ cRc ⟨nm, kd, tt, ad, to⟩), (0 + 0 + 1 + (m - 0), [] ++ (o.flatMap cRc).take (0 * 5) ++ cRc ⟨nm, kd, tt, ad, to⟩ ++ (o.flatMap cRc).drop (0 * 5))] = Γ
        have HST := Hi (show Γ.inv [] x81 by rw [← hΓ]; exact ghA_start (HO.out.rowNew 49 5))
        have q2_0 : ∀ q : Γ.Wd, q.w.cell? ⟨br, 0, none⟩ = some (.string nm) := by rw [← hΓ]; exact ghA_cell (c := #[.string nm, .int .i64 kd, .int .i64 tt, .int .i64 ad, .string to]) (t := 49) 2 rfl 0 rfl
        have q2_1 : ∀ q : Γ.Wd, q.w.cell? ⟨br, 1, none⟩ = some (.int .i64 kd) := by rw [← hΓ]; exact ghA_cell (c := #[.string nm, .int .i64 kd, .int .i64 tt, .int .i64 ad, .string to]) (t := 49) 2 rfl 1 rfl
        have q2_2 : ∀ q : Γ.Wd, q.w.cell? ⟨br, 2, none⟩ = some (.int .i64 tt) := by rw [← hΓ]; exact ghA_cell (c := #[.string nm, .int .i64 kd, .int .i64 tt, .int .i64 ad, .string to]) (t := 49) 2 rfl 2 rfl
        have q2_3 : ∀ q : Γ.Wd, q.w.cell? ⟨br, 3, none⟩ = some (.int .i64 ad) := by rw [← hΓ]; exact ghA_cell (c := #[.string nm, .int .i64 kd, .int .i64 tt, .int .i64 ad, .string to]) (t := 49) 2 rfl 3 rfl
        have q2_4 : ∀ q : Γ.Wd, q.w.cell? ⟨br, 4, none⟩ = some (.string to) := by rw [← hΓ]; exact ghA_cell (c := #[.string nm, .int .i64 kd, .int .i64 tt, .int .i64 ad, .string to]) (t := 49) 2 rfl 4 rfl
        have HΓ := Hi hΓ
        clear hΓ
        have ne : Nonempty Γ.Wd := ⟨⟨[], x81, HST.out⟩⟩
        refine wp_region_H Γ 12 [4, 7, 11] (by kernel_rfl) (by kernel_rfl) (by kernel_rfl) (by kernel_rfl) HST.out ?_
        simp only [List.take, List.drop]
        iterate 3 (first | (refine wpH_want (by kernel_rfl) (by kernel_rfl) rfl rfl ?_; intro K hK; go_big_quiet_op; go_big_quiet_on) | (refine wpH_is (by kernel_rfl) (by kernel_rfl) rfl _ (fun _ w _ => rfl) ?_; simp only [Act.put, l_T, l_S, l_Z]))
        refine wpH_is (by kernel_rfl) (by kernel_rfl) rfl (u1) (fun _ w _ => run_v_ok (HU1.out w)) ?_
        simp only [Act.put, l_T, l_S, l_Z]
        refine wpH_chainX 0 (gnth 0) (gnth_lasts _ _) (by kernel_rfl) (by kernel_rfl) (fun a' g hg hgl he => ?_) (fun d hd => ?_)
        ·
         obtain ⟨hs, hx, _⟩ := he
         rw [← HΓ.out] at hg ⊢
         have hs' : a'.eval (.tmp 68) = g.vs.getLastD (.slice none 0 0) := (last_none hgl hs)
         have hR : Reads g.w (a'.eval (.tmp 71)) 0 ((o.flatMap cRc).take (0 * 5)) := by
          have hx' : a'.eval (.tmp 71) = u1 := hx
          rw [hx']
          exact HR1.out g.w _ ((ghA_rest hg).row 0 rfl)
         exact ghA_app 0 (.tmp 68) (.tmp 71) 50 rfl Tryz.underlying50 infoRc rfl (by decide) rfl rfl (by have := HXL.out; rw [List.length_take]; omega) (fun u hu => cRc_one o u (List.mem_of_mem_take hu)) (by have := HM.out; unfold maxLen; omega) (by have := HM.out; omega) hg hgl hs' hR
        cases hd
        simp only [List.nil_append]
        iterate 1 (first | (refine wpH_want (by kernel_rfl) (by kernel_rfl) rfl rfl ?_; intro K hK; go_big_quiet_op; go_big_quiet_on) | (refine wpH_is (by kernel_rfl) (by kernel_rfl) rfl _ (fun _ w _ => rfl) ?_; simp only [Act.put, l_T, l_S, l_Z]))
        refine wpH_ex (gblk Γ 0 (fun b => .slice (some ⟨b, 0, none⟩) 1 1) (.cells #[.string nm, .int .i64 kd, .int .i64 tt, .int .i64 ad, .string to] 49)) (gblk_lasts _ _ _ _) (by kernel_rfl) (by kernel_rfl) (fun a' g hg he => ?_) (fun d hd => ?_)
        ·
         obtain ⟨hag, _⟩ := he
         have hag' : a'.eval (.tmp 73) = .agg #[.string nm, .int .i64 kd, .int .i64 tt, .int .i64 ad, .string to] := hag
         refine wp_of_value (v := .slice (some ⟨g.w.heap.size, 0, none⟩) 1 1) (w' := g.w.alloc (.cells #[.string nm, .int .i64 kd, .int .i64 tt, .int .i64 ad, .string to] 49)) (run_v_ok ?_) ⟨_, rfl, (Below.refl _ _).alloc (Nat.le_refl _) _, ?_⟩
         ·
          simp only [List.map_toArray, List.map_cons, List.map_nil, hag']
          exact run_bsRc _ _ _ _ _ _
         ·
          have hlt : ∀ b, Γ.own g.vs b → b < g.w.heap.size := by rw [← HΓ.out] at hg ⊢; exact ghA_lt hg
          exact gblk_new (V := fun b => .slice (some ⟨b, 0, none⟩) 1 1) Γ hlt (Nat.zero_le _)
        cases hd
        simp only [List.cons_append, List.nil_append]
        refine wpH_chainX 1 (gnth 1) (gnth_lasts _ _) (by kernel_rfl) (by kernel_rfl) (fun a' g hg hgl he => ?_) (fun d hd => ?_)
        ·
         obtain ⟨hs, hx, _⟩ := he
         rw [← HΓ.out] at hg ⊢
         have hs' : a'.eval (.tmp 72) = g.vs.getLastD (.slice none 0 0) := (ghA_last (k := 0) (vs := g.vs) (w := g.w) hs hgl).symm
         have hR : Reads g.w (a'.eval (.tmp 74)) 1 (cRc ⟨nm, kd, tt, ad, to⟩) := by
          obtain ⟨b, hb, _, hblk, _⟩ := (show gblk Γ 0 (fun b => .slice (some ⟨b, 0, none⟩) 1 1) (.cells #[.string nm, .int .i64 kd, .int .i64 tt, .int .i64 ad, .string to] 49) (a'.eval (.tmp 74)) g from hx)
          rw [hb]
          exact reads_blk hblk
         exact ghA_app 1 (.tmp 72) (.tmp 74) 50 rfl Tryz.underlying50 infoRc rfl (by decide) rfl rfl rfl (oneR ⟨nm, kd, tt, ad, to⟩) (by have := HM.out; unfold maxLen; omega) (by have := HM.out; omega) hg hgl hs' hR
        cases hd
        simp only [List.cons_append, List.nil_append]
        iterate 2 (first | (refine wpH_want (by kernel_rfl) (by kernel_rfl) rfl rfl ?_; intro K hK; go_big_quiet_op; go_big_quiet_on) | (refine wpH_is (by kernel_rfl) (by kernel_rfl) rfl _ (fun _ w _ => rfl) ?_; simp only [Act.put, l_T, l_S, l_Z]))
        refine wpH_is (by kernel_rfl) (by kernel_rfl) rfl (u2) (fun _ w _ => run_v_ok (HU2.out w)) ?_
        simp only [Act.put, l_T, l_S, l_Z]
        refine wpH_chainX 2 (gnth 2) (gnth_lasts _ _) (by kernel_rfl) (by kernel_rfl) (fun a' g hg hgl he => ?_) (fun d hd => ?_)
        ·
         obtain ⟨hs, hx, _⟩ := he
         rw [← HΓ.out] at hg ⊢
         have hs' : a'.eval (.tmp 75) = g.vs.getLastD (.slice none 0 0) := (ghA_last (k := 1) (vs := g.vs) (w := g.w) hs hgl).symm
         have hR : Reads g.w (a'.eval (.tmp 78)) (m - 0) ((o.flatMap cRc).drop (0 * 5)) := by
          have hx' : a'.eval (.tmp 78) = u2 := hx
          rw [hx']
          exact HR2.out g.w _ ((ghA_rest hg).row 0 rfl)
         exact ghA_app 2 (.tmp 75) (.tmp 78) 50 rfl Tryz.underlying50 infoRc rfl (by decide) rfl rfl (by have := HXL.out; rw [List.length_drop]; omega) (fun u hu => cRc_one o u (List.mem_of_mem_drop hu)) (by have := HM.out; unfold maxLen; omega) (by have := HM.out; omega) hg hgl hs' hR
        cases hd
        simp only [List.cons_append, List.nil_append]
        refine wpH_nil (by kernel_rfl) (by simp) ?_
        rintro ⟨vs, x96⟩ hg hgl
        rw [← HΓ.out] at hg
        simp only [gexAll, List.drop]
        rintro u72 -
        rintro u74 -
        rintro u75 -
        rintro u79 hlast
        simp only [Act.put, l_T, l_S, l_Z]
        have hO := ghA_at hg 3 hgl rfl
        rw [ghA_last (k := 2) hlast hgl] at hO
        simp only [List.cons_append, List.nil_append] at hO
        replace HO := Hi (show Own _ _ _ [_, _, _, rowR u79 49 5 (0 + 0 + 1 + (m - 0)) ([] ++ (o.flatMap cRc).take (0 * 5) ++ cRc ⟨nm, kd, tt, ad, to⟩ ++ (o.flatMap cRc).drop (0 * 5))] from hO)
        clear q2_0 q2_1 q2_2 q2_3 q2_4 ne HST hg hgl HΓ hlast hO
        have hO := HO.out.pick (L' := [rowR u79 49 5 (0 + 0 + 1 + (m - 0)) ([] ++ (o.flatMap cRc).take (0 * 5) ++ cRc ⟨nm, kd, tt, ad, to⟩ ++ (o.flatMap cRc).drop (0 * 5))]) [3] (by decide) (fun k R hk => by
         match k, hk with
         | 0, hk => exact ⟨3, rfl, hk⟩)
        have e1 : 0 + 0 + 1 + (m - 0) = m + 1 := by omega
        have e2 : [] ++ (o.flatMap cRc).take (0 * 5) ++ cRc ⟨nm, kd, tt, ad, to⟩ ++ (o.flatMap cRc).drop (0 * 5) = (insR ⟨nm, kd, tt, ad, to⟩ o).flatMap cRc := by rw [HIN.out, List.nil_append]
        rw [e1, e2] at hO
        clear e1 e2 HO
        obtain ⟨a3, cap3, rfl⟩ := row_shape (hO.row 0 rfl)
        have HO := Hi hO
        clear hO
        go_wp2
        go_roundw
        case rel => exact ⟨k + 1, m + 1, cap3, a3, by omega, by go_num, by rw [HS1.out]; exact HIL.out, rfl, by rw [HS2.out], by rw [HS1.out]; exact HO.out⟩
        case measure => simp [intOf]; omega
    ·
     replace he : ex ≤ now := by omega
     have hd : decide (now < ex) = false := by simp; omega
     have HS1 := Hi (show lookI now s (l.take (k + 1)) = o from HLI.out.trans (stepI_no (hit_c hn hd)))
     have HS2 := Hi (show knwD now s (l.take (k + 1)) = kn from by rw [HKI.out, hit_c hn hd]; simp)
     clear HLI HKI
     go_wp2
     go_roundw
     case rel => exact ⟨k + 1, m, cap2, a2, by omega, by go_num, by rw [HS1.out]; exact HML.out, rfl, by rw [HS2.out], by rw [HS1.out]; exact HO.out.take 1⟩
     case measure => simp [intOf]; omega
  ·
   obtain rfl : k = n := by omega
   rw [show l.take k = l by rw [← HN.out, List.take_length]] at HO hml ⊢
   have HML := Hi hml
   clear hml
   go_wp2
   go_ret2
   refine ⟨a2, cap2, by rw [HML.out]; rfl, ?_, HO.out.size⟩
   rw [HML.out]
   exact HO.out
end
theorem ilook_d {w0 w : World} {D : Nat → Prop} {L : List Res} {c : Nat} {l : List En} (now : Int) (s : ByteArray) (h : Own w0 D w L) (i : Nat) (hi : L[i]? = some (resI c l)) (hl : l.length ≤ 32) (ha : l.Pairwise aprt) {m : List Rc} {k : Bool} (hm : lookD now s l = m) (hk : knwD now s l = k) :
  Calls Tryz.prog 27 #[.pointer (some ⟨c, 0, none⟩), .int .i64 now, .string s] w (LookD w0 D L m k w) := by
 obtain ⟨F, hF, _, _⟩ := h.step hi
 obtain ⟨v, hO⟩ := openI' (Own.one hF)
 obtain ⟨n, hn⟩ : ∃ n, l.length = n := ⟨_, rfl⟩
 have hO : Own w F w [blkI c v, rowR v 141 6 l.length (l.flatMap cIt)] := hO
 rw [hn] at hO hl
 obtain ⟨a, cap, rfl⟩ := row_shape (hO.row 1 rfl)
 refine (ilook_w now s (hO.cell 0 rfl 0 rfl) (hO.row 1 rfl) hn hl).mono ?_
 rintro e w' ⟨a2, cap2, he, hO2, hs⟩
 rw [lookI_eq ha, hm] at he hO2
 rw [hk] at he
 exact ⟨a2, cap2, he, h.joinC hO2, hs⟩

end Go.Proofs.YtbolfkojebbejaaGreatDoor
