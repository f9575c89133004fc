/- The sanity check of the laws of chapter 21. Printed by wip/tools/gen21t.py. -/
import Derived.Test.YtbolfkojebbejaaGreatDoorLr2
set_option linter.unusedVariables false
set_option maxRecDepth 100000
set_option maxHeartbeats 32000000
namespace Go.Proofs.YtbolfkojebbejaaGreatDoor
open Go.RowKit Go.Sort
variable {D : Nat → Prop} {w : World}
attribute [local go_sem] Oper.semAt_some

theorem one_at {P : Nat → Prop} (h : P 0) : ∀ j, j < 1 → P j := fun j hj => by
 obtain rfl : j = 0 := by omega
 exact h
theorem rdrn_one {g c : Nat} {d : Rn} {q : Option Addr} {m e : Nat} (c0 : w.cell? ⟨g, 0, none⟩ = some (.int .i64 d.tk)) (c1 : w.cell? ⟨g, 1, none⟩ = some (.int .i64 d.er)) (c2 : w.cell? ⟨g, 2, none⟩ = some (.slice q m e)) (hm : d.ad.length = m) (hl : m ≤ 1000)
  (hc : ∀ j, j < m → ∃ h, q = some ⟨h, 0, none⟩ ∧ w.cell? ⟨h, j, none⟩ = some (.int .i64 (d.ad.getD j 0))) : RdRn w (.slice (some ⟨g, 0, none⟩) 1 c) [d] 1 := by
 refine ⟨rfl, some ⟨g, 0, none⟩, c, rfl, fun k hk => ?_⟩
 obtain rfl : k = 0 := by omega
 exact ⟨g, q, m, e, rfl, hm, hl, c0, c1, c2, hc⟩
theorem row_int {x : Value} {l : List Int} {n : Nat} (h : w.ownsRow 0 3 1 x n (l.map cIn)) (hn : l.length = n) : ∃ q e, x = .slice q n e ∧ ∀ j, j < n → ∃ h, q = some ⟨h, 0, none⟩ ∧ w.cell? ⟨h, j, none⟩ = some (.int .i64 (l.getD j 0)) := by
 obtain ⟨q, e, rfl⟩ := row_shape h
 refine ⟨q, e, rfl, fun j hj => ?_⟩
 obtain ⟨g, rfl⟩ := row_some h (by omega)
 refine ⟨g, rfl, (row_cells h).1 j _ ?_⟩
 have hjl : j < l.length := by omega
 rw [List.getElem?_map, List.getElem?_eq_getElem hjl]
 simp [List.getD_eq_getElem?_getD, hjl]
theorem rdrn_own {w0 w : World} {L : List Res} {v : Value} {d : Rn} (h : Own w0 D w L) (i : Nat) (hi : L[i]? = some (resDn v [d])) (hl : d.ad.length ≤ 1000) : RdRn w v [d] 1 := by
 obtain ⟨F, hF, _, _⟩ := h.step hi
 obtain ⟨avs, h1⟩ := Own.openExC (Own.one hF)
 obtain ⟨h2, h3⟩ := Own.openFC h1
 have h4 := Own.openC h3
 obtain ⟨x, rfl⟩ : ∃ x, avs = [x] := List.length_eq_one_iff.1 h2
 have r0 := h4.row 0 rfl
 have h5 := Own.openC (Own.swap' h4)
 have r1 := h5.row 0 rfl
 obtain ⟨p, c, rfl⟩ := row_shape r0
 obtain ⟨g, rfl⟩ := row_some r0 Nat.one_pos
 obtain ⟨q, e, rfl, hc⟩ := row_int r1 rfl
 exact rdrn_one ((row_cells r0).1 0 _ rfl) ((row_cells r0).1 1 _ rfl) ((row_cells r0).1 2 _ rfl) rfl hl hc
def nAB : ByteArray := ⟨#[97, 46, 98]⟩
def nC : ByteArray := ⟨#[99]⟩
def saZ : Rz := ⟨[1, 2], 0, [], 0, 0, [], []⟩
def saZ1 (b : Nat) : Rz := ⟨[1, 2], 0, [], 1, 1, [(b, ⟨1, [nAB], 1, 1, 0, 1⟩)], []⟩
def saE : List En := [⟨nAB, 2, 0, nC, 10⟩, ⟨nC, 1, 9, ⟨#[]⟩, 10⟩]
def saZ2 (dn : List Rn) : Rz := ⟨[1, 2], 0, saE, 1, 1, [], dn⟩
def saZ4 (dn : List Rn) : Rz := ⟨[1, 2], 0, saE, 2, 1, [], dn⟩
def saD : Dm := ⟨7919, true, 0, nAB, 1, exRs⟩
def saQ : ByteArray := ⟨(encM ⟨7919, false, 0, nAB, 1, []⟩).toArray⟩
theorem sa_1 (b : Nat) : startZ 0 saZ b nAB = (saZ1 b, [⟨1, 20101, saQ⟩]) := by kernel_rfl
theorem sa_2 (b : Nat) : rcvZ 1 (saZ1 b) 2 53 20101 saD = (false, saZ1 b, []) := by kernel_rfl
theorem sa_3 (b : Nat) : rcvZ 1 (saZ1 b) 1 53 20101 saD = (true, saZ2 [⟨1, 0, [9]⟩], []) := by kernel_rfl
theorem sa_4 (b : Nat) : startZ 2 (saZ2 []) b nC = (saZ4 [⟨2, 0, [9]⟩], []) := by kernel_rfl
theorem saD_ok : DmV saD := ⟨by decide, by decide, by decide +kernel, .inl rfl, by decide, fun r hr => by
 rcases List.mem_cons.1 hr with rfl | hr
 ·
  exact ⟨by decide +kernel, by decide, by decide, .inr ⟨rfl, by decide +kernel, rfl⟩⟩
 ·
  obtain rfl := List.mem_singleton.1 hr
  exact ⟨by decide +kernel, by decide, by decide, .inl ⟨rfl, by decide, emp_list⟩⟩, fun h => by cases h⟩
theorem sa_zi {z : Rz} (h1 : z.sv = [1, 2]) (h2 : z.sd = 0) (h3 : 0 ≤ z.qn) (h4 : z.wl.length ≤ 100) (h5 : ∀ p ∈ z.wl, LkOk p.2) (h6 : z.dn.length ≤ 1000) (h7 : CInv 1 z.es) : ZI z :=
 ⟨by rw [h1]; decide, by rw [h1]; decide, by rw [h2]; decide, by rw [h2]; decide, h3, h4, h5, h6, h7.len, h7.ap, en_of h7⟩
theorem saE_ok : CInv 1 saE := by
 have h := puts_ok (t := 1) exRs (CInv.nil 1)
 have e : putsF 1 exRs [] = saE := by kernel_rfl
 rw [← e]; exact h
theorem saZ_ok : ZI saZ := sa_zi rfl rfl (by decide) (by decide) (fun p hp => by cases hp) (by decide) (CInv.nil 1)
theorem saZ1_ok (b : Nat) : ZI (saZ1 b) := sa_zi rfl rfl (by show (0 : Int) ≤ 1; decide) (by show 1 ≤ 100; decide) (fun p hp => by
 obtain rfl := List.mem_singleton.1 hp
 exact ⟨by show 0 < 1; decide, by show 1 ≤ 5; decide, fun s hs => by obtain rfl := List.mem_singleton.1 hs; decide +kernel, by show (0 : Int) ≤ 1; decide, by show (1 : Int) ≤ 12; decide⟩) (by show 0 ≤ 1000; decide) (CInv.nil 1)
theorem saZ2_ok {dn : List Rn} (h : dn.length ≤ 1000) : ZI (saZ2 dn) := sa_zi rfl rfl (by show (0 : Int) ≤ 1; decide) (by show 0 ≤ 100; decide) (fun p hp => by cases hp) h saE_ok
theorem run_bsI2 (a b : Int) (w : World) : (Instr.buildSlice 30 2 #[(0, .int .i64 a), (1, .int .i64 b)]).run Tryz.prog w = .ok (.slice (some ⟨w.heap.size, 0, none⟩) 2 2) (w.alloc (.cells #[.int .i64 a, .int .i64 b] 3)) := by kernel_rfl
theorem run_bsI1 (a : Int) (w : World) : (Instr.buildSlice 30 1 #[(0, .int .i64 a)]).run Tryz.prog w = .ok (.slice (some ⟨w.heap.size, 0, none⟩) 1 1) (w.alloc (.cells #[.int .i64 a] 3)) := by kernel_rfl
theorem run_bdM (w : World) : (Instr.build 86 #[(0, .int .i64 7919), (3, .string ⟨#[97, 46, 98]⟩), (4, .int .i64 1)]).run Tryz.prog w = .ok (.agg #[.int .i64 7919, .bool false, .int .i64 0, .string ⟨#[97, 46, 98]⟩, .int .i64 1, .slice none 0 0]) w := by kernel_rfl
theorem run_bdM2 (ge : Nat) (w : World) : (Instr.build 86 #[(0, .int .i64 7919), (1, .bool true), (3, .string ⟨#[97, 46, 98]⟩), (4, .int .i64 1), (5, .slice (some ⟨ge, 0, none⟩) 2 2)]).run Tryz.prog w = .ok (.agg #[.int .i64 7919, .bool true, .int .i64 0, .string ⟨#[97, 46, 98]⟩, .int .i64 1, .slice (some ⟨ge, 0, none⟩) 2 2]) w := by kernel_rfl
theorem run_bdQ (s : ByteArray) (w : World) : (Instr.build 37 #[(0, .int .i64 1), (1, .int .i64 20101), (2, .string s)]).run Tryz.prog w = .ok (.agg #[.int .i64 1, .int .i64 20101, .string s]) w := by kernel_rfl
theorem run_bsQ1 (s : ByteArray) (w : World) : (Instr.buildSlice 32 1 #[(0, .agg #[.int .i64 1, .int .i64 20101, .string s])]).run Tryz.prog w = .ok (.slice (some ⟨w.heap.size, 0, none⟩) 1 1) (w.alloc (.cells #[.int .i64 1, .int .i64 20101, .string s] 37)) := by kernel_rfl
theorem run_bdRs (t : Int) (g : Nat) (w : World) : (Instr.build 63 #[(0, .int .i64 t), (2, .slice (some ⟨g, 0, none⟩) 1 1)]).run Tryz.prog w = .ok (.agg #[.int .i64 t, .int .i64 0, .slice (some ⟨g, 0, none⟩) 1 1]) w := by kernel_rfl
theorem run_bsRs (t : Int) (g : Nat) (w : World) : (Instr.buildSlice 58 1 #[(0, .agg #[.int .i64 t, .int .i64 0, .slice (some ⟨g, 0, none⟩) 1 1])]).run Tryz.prog w = .ok (.slice (some ⟨w.heap.size, 0, none⟩) 1 1) (w.alloc (.cells #[.int .i64 t, .int .i64 0, .slice (some ⟨g, 0, none⟩) 1 1] 63)) := by kernel_rfl
theorem sv2_bd : ∀ j (hj : j < ([1, 2] : List Int).length), 1 ≤ ([1, 2] : List Int)[j] ∧ ([1, 2] : List Int)[j] < 4294967295 := by decide
theorem sv2_ne : ∀ j k (hj : j < ([1, 2] : List Int).length) (hk : k < ([1, 2] : List Int).length), j < k → ([1, 2] : List Int)[j] ≠ ([1, 2] : List Int)[k] := by
 intro j k hj hk h
 have hj' : j < 2 := hj
 have hk' : k < 2 := hk
 obtain ⟨rfl, rfl⟩ : j = 0 ∧ k = 1 := by omega
 show (1 : Int) ≠ 2; decide
theorem sanity_o {g : Glo} (h : Own w D w [glR g]) (hg : g.ok = true) : Calls Tryz.prog 19 #[] w (OPost w D [glR g] (.bool true) w) := by
 have HG := Hi hg
 have HO := Hi h
 have r1 := run_bsI2 1 2
 have r2 := run_bdM
 have hvb : vname (⟨#[]⟩ : ByteArray) = false := by decide +kernel
 have hva : vname (⟨#[97]⟩ : ByteArray) = true := by decide +kernel
 have HV := Hi (And.intro hvb hva)
 clear h hg hvb hva
 obtain ⟨x1, hx1, g1, hg1, hO⟩ := HO.out.allocE (.cells #[.int .i64 1, .int .i64 2] 3)
 replace HO := Hi (show Own w D x1 [glR g, blkR g1 (.cells #[.int .i64 1, .int .i64 2] 3)] from hO)
 clear hO
 have hQ := HO.out.toRowQ 1 2 1 rfl rfl (by decide)
 replace HO := Hi (show Own w D x1 [_, rowVs (.slice (some ⟨g1, 0, none⟩) 2 2) [1, 2]] from hQ)
 clear hQ
 go_enter Tryz.func19, Tryz.ntmps19
 go_wp2_with fail
 refine (rnew_o (xs := [1, 2]) (n := 2) (sd := 0) HO.out 1 rfl rfl (by decide) sv2_bd sv2_ne (by decide) (by decide)).mono ?_
 rintro e x2 ⟨a0, rfl, hO, -⟩
 replace hO := newZ hO
 replace HO := Hi (show Own _ _ _ [_, _, resZ a0 ⟨[1, 2], 0, [], 0, 0, [], []⟩] from hO)
 clear hO
 clear hx1 hg1
 replace HO := Hi (show Own w D x2 [resZ a0 saZ, glR g] from HO.out.toEnd 3 [2, 0] rfl rfl)
 go_wp2_with fail
 have HR := Hi (fun (D' : Nat → Prop) (hD : Own x2 D' x2 [resZ a0 saZ, glR g]) => resolve_z (w := x2) (D := D') (now := 0) (nm := nAB) hD saZ_ok (by decide +kernel) (show (0 : Nat) < 8 by decide) (show (0 : Int) ≤ 100000 by decide) (show (0 : Int) ≤ 0 by decide) (show (0 : Int) ≤ 100000 by decide))
 refine (o_frame (A := []) (B := [resZ a0 saZ, glR g]) (Q := fun e B' => ∃ b u, e = .returned (.tuple #[.int .i64 1, u, .int .i64 0]) ∧ B' = [resZ a0 (saZ1 b), glR g, rowQs u [⟨1, 20101, saQ⟩]]) HO.out (fun D' hD => (HR.out D' hD).mono fun e w' ⟨b, u, h1, h2, h3⟩ => ⟨_, ⟨b, u, h1, rfl⟩, by rw [sa_1] at h2; exact h2, h3⟩)).mono ?_
 rintro e x3 ⟨B', ⟨b, u, rfl, rfl⟩, hO, -⟩
 replace HO := Hi (show Own _ _ _ [resZ a0 (saZ1 b), _, rowQs u [⟨1, 20101, saQ⟩]] from hO)
 clear hO HR
 obtain ⟨ua, uc, rfl⟩ := row_shape (HO.out.row 2 rfl)
 replace HO := Hi (show Own w D x3 [resZ a0 (saZ1 b), glR g, rowQs (.slice ua 1 uc) [⟨1, 20101, saQ⟩]] from HO.out)
 go_wp2_with fail
 refine (o_still HO.out (encode19_r (id := 7919) (an := false) (cd := 0) (nm := nAB) (kd := 1) (a := none) (cap := 0) (n := 0) (rs := []) _ (((Own.nil _ none0).rowNew 49 5).row 0 rfl) rfl (qryD_ok (by decide) (by decide) (by decide +kernel)))).mono ?_
 rintro e x4 ⟨rfl, hO, -⟩
 replace HO := Hi hO
 clear hO r1 r2
 have hsq : (⟨(encM ⟨7919, false, 0, nAB, 1, []⟩).toArray⟩ : ByteArray) = saQ := rfl
 rw [hsq]
 clear hsq
 go_wp2_with fail
 refine (example_r _).mono ?_
 rintro e x5 ⟨ge, rfl, hOd⟩
 have hO := HO.out.joinC hOd
 replace HO := Hi (show Own _ _ _ [_, _, _, rowR (.slice (some ⟨ge, 0, none⟩) 2 2) 49 5 2 (exRs.flatMap cRc)] from hO)
 clear hO hOd
 have r3 := run_bdM2 ge
 obtain ⟨us, hus⟩ : ∃ y, (⟨(encM ⟨7919, true, 0, nAB, 1, exRs⟩).toArray⟩ : ByteArray) = y := ⟨_, rfl⟩
 have HUS := Hi hus.symm
 go_wp2_with fail
 refine (o_still HO.out (datagram_r (id := 7919) (an := true) (cd := 0) (nm := nAB) (kd := 1) (port := 20101) _ (HO.out.row 3 rfl) rfl saD_ok hus)).mono ?_
 rintro e x6 ⟨rfl, hO, -⟩
 replace HO := Hi hO
 clear hO r3 hus
 obtain ⟨x7, hx7, bu, hbu, hO⟩ := HO.out.allocE (.cells #[.int .i64 0, .int .i64 0, .string ⟨#[]⟩] 56)
 replace HO := Hi (show Own _ _ _ [_, _, _, _, blkR bu (.cells #[.int .i64 0, .int .i64 0, .string ⟨#[]⟩] 56)] from hO)
 clear hO
 obtain ⟨x11, x14, x16, hx11, hx14, hx16, k4_0_8, lk4_0_8, k4_1_12, lk4_1_12, k4_2_15, lk4_2_15, hO⟩ := HO.out.steps3 4 rfl (.int .i64 53) (.int .i64 20101) (.string us)
 replace HO := Hi (show Own _ _ _ [_, _, _, _, blkR bu (.cells #[.int .i64 53, .int .i64 20101, .string us] 56)] from hO)
 clear hO
 obtain ⟨z4_0, z4_1, z4_2⟩ := HO.out.c3 4 rfl
 go_wp2_with fail
 refine (o_frame (A := [rowQs (.slice ua 1 uc) [⟨1, 20101, saQ⟩], rowR (.slice (some ⟨ge, 0, none⟩) 2 2) 49 5 2 (exRs.flatMap cRc), blkR bu (.cells #[.int .i64 53, .int .i64 20101, .string us] 56)]) (B := [resZ a0 (saZ1 b), glR g]) (Q := fun e B' => ∃ u, e = .returned (.tuple #[.bool false, u]) ∧ B' = [resZ a0 (saZ1 b), glR g, rowQs u []]) (HO.out.toEnd 5 [2, 3, 4, 0, 1] rfl rfl) (fun D' hD => (receive_z (now := 1) (fr := 2) (fp := 53) (tp := 20101) (d := saD) hD saD_ok HUS.out (saZ1_ok b) (CInv.nil 1) HG.out (show (1 : Int) ≤ 100000 by decide) (fun p hp => by obtain rfl := List.mem_singleton.1 hp; exact ⟨by show (0 : Int) ≤ 1; decide, by show (1 : Int) ≤ 1000000; decide⟩)).mono fun e w' ⟨u, h1, h2, h3⟩ => ⟨_, ⟨u, by rw [sa_2 b] at h1; exact h1, rfl⟩, by rw [sa_2 b] at h2; exact h2, h3⟩)).mono ?_
 rintro e x17 ⟨B', ⟨vx17, rfl, rfl⟩, hO, -⟩
 replace HO := Hi (show Own _ _ _ [rowQs (.slice ua 1 uc) [⟨1, 20101, saQ⟩], rowR (.slice (some ⟨ge, 0, none⟩) 2 2) 49 5 2 (exRs.flatMap cRc), blkR bu (.cells #[.int .i64 53, .int .i64 20101, .string us] 56), resZ a0 (saZ1 b), glR g, rowQs vx17 []] from hO)
 clear hO
 have hO := HO.out.toEnd 6 [3, 4, 0, 1, 2, 5] rfl rfl
 replace HO := Hi (show Own _ _ _ [resZ a0 (saZ1 b), glR g, rowQs (.slice ua 1 uc) [⟨1, 20101, saQ⟩], rowR (.slice (some ⟨ge, 0, none⟩) 2 2) 49 5 2 (exRs.flatMap cRc), blkR bu (.cells #[.int .i64 53, .int .i64 20101, .string us] 56), _] from hO)
 clear hO
 clear hx7 hbu k4_0_8 lk4_0_8 hx11 k4_1_12 lk4_1_12 hx14 k4_2_15 lk4_2_15 hx16 z4_0 z4_1 z4_2
 obtain ⟨z4_0, z4_1, z4_2⟩ := HO.out.c3 4 rfl
 obtain ⟨vax17, vcx17, rfl⟩ := row_shape (HO.out.row 5 rfl)
 replace HO := Hi (show Own w D x17 [resZ a0 (saZ1 b), glR g, rowQs (.slice ua 1 uc) [⟨1, 20101, saQ⟩], rowR (.slice (some ⟨ge, 0, none⟩) 2 2) 49 5 2 (exRs.flatMap cRc), blkR bu (.cells #[.int .i64 53, .int .i64 20101, .string us] 56), rowQs (.slice vax17 0 vcx17) []] from HO.out)
 go_wp2_with fail
 refine (o_frame (A := [rowQs (.slice ua 1 uc) [⟨1, 20101, saQ⟩], rowR (.slice (some ⟨ge, 0, none⟩) 2 2) 49 5 2 (exRs.flatMap cRc), blkR bu (.cells #[.int .i64 53, .int .i64 20101, .string us] 56), rowQs (.slice vax17 0 vcx17) []]) (B := [resZ a0 (saZ1 b), glR g]) (Q := fun e B' => ∃ u, e = .returned (.tuple #[.bool true, u]) ∧ B' = [resZ a0 (saZ2 [⟨1, 0, [9]⟩]), glR g, rowQs u []]) (HO.out.toEnd 6 [2, 3, 4, 5, 0, 1] rfl rfl) (fun D' hD => (receive_z (now := 1) (fr := 1) (fp := 53) (tp := 20101) (d := saD) hD saD_ok HUS.out (saZ1_ok b) (CInv.nil 1) HG.out (show (1 : Int) ≤ 100000 by decide) (fun p hp => by obtain rfl := List.mem_singleton.1 hp; exact ⟨by show (0 : Int) ≤ 1; decide, by show (1 : Int) ≤ 1000000; decide⟩)).mono fun e w' ⟨u, h1, h2, h3⟩ => ⟨_, ⟨u, by rw [sa_3 b] at h1; exact h1, rfl⟩, by rw [sa_3 b] at h2; exact h2, h3⟩)).mono ?_
 rintro e x18 ⟨B', ⟨vx18, rfl, rfl⟩, hO, -⟩
 replace HO := Hi (show Own _ _ _ [rowQs (.slice ua 1 uc) [⟨1, 20101, saQ⟩], rowR (.slice (some ⟨ge, 0, none⟩) 2 2) 49 5 2 (exRs.flatMap cRc), blkR bu (.cells #[.int .i64 53, .int .i64 20101, .string us] 56), rowQs (.slice vax17 0 vcx17) [], resZ a0 (saZ2 [⟨1, 0, [9]⟩]), glR g, rowQs vx18 []] from hO)
 clear hO
 have hO := HO.out.toEnd 7 [4, 5, 0, 1, 2, 3, 6] rfl rfl
 replace HO := Hi (show Own _ _ _ [resZ a0 (saZ2 [⟨1, 0, [9]⟩]), glR g, rowQs (.slice ua 1 uc) [⟨1, 20101, saQ⟩], rowR (.slice (some ⟨ge, 0, none⟩) 2 2) 49 5 2 (exRs.flatMap cRc), blkR bu (.cells #[.int .i64 53, .int .i64 20101, .string us] 56), rowQs (.slice vax17 0 vcx17) [], _] from hO)
 clear hO
 clear z4_0 z4_1 z4_2
 obtain ⟨z4_0, z4_1, z4_2⟩ := HO.out.c3 4 rfl
 obtain ⟨vax18, vcx18, rfl⟩ := row_shape (HO.out.row 6 rfl)
 replace HO := Hi (show Own w D x18 [resZ a0 (saZ2 [⟨1, 0, [9]⟩]), glR g, rowQs (.slice ua 1 uc) [⟨1, 20101, saQ⟩], rowR (.slice (some ⟨ge, 0, none⟩) 2 2) 49 5 2 (exRs.flatMap cRc), blkR bu (.cells #[.int .i64 53, .int .i64 20101, .string us] 56), rowQs (.slice vax17 0 vcx17) [], rowQs (.slice vax18 0 vcx18) []] from HO.out)
 clear z4_0 z4_1 z4_2
 go_wp2_with fail
 refine (o_frameV [glR g, rowQs (.slice ua 1 uc) [⟨1, 20101, saQ⟩], rowR (.slice (some ⟨ge, 0, none⟩) 2 2) 49 5 2 (exRs.flatMap cRc), blkR bu (.cells #[.int .i64 53, .int .i64 20101, .string us] 56), rowQs (.slice vax17 0 vcx17) [], rowQs (.slice vax18 0 vcx18) []] [resZ a0 (saZ2 [⟨1, 0, [9]⟩])] (fun u => [resZ a0 (saZ2 []), resDn u [⟨1, 0, [9]⟩]]) (HO.out.toEnd 7 [1, 2, 3, 4, 5, 6, 0] rfl rfl) (fun D' hD => results_z hD)).mono ?_
 rintro e x19 ⟨wx19, rfl, hO, -⟩
 replace HO := Hi (show Own _ _ _ [glR g, rowQs (.slice ua 1 uc) [⟨1, 20101, saQ⟩], rowR (.slice (some ⟨ge, 0, none⟩) 2 2) 49 5 2 (exRs.flatMap cRc), blkR bu (.cells #[.int .i64 53, .int .i64 20101, .string us] 56), rowQs (.slice vax17 0 vcx17) [], rowQs (.slice vax18 0 vcx18) [], resZ a0 (saZ2 []), resDn wx19 [⟨1, 0, [9]⟩]] from hO)
 clear hO
 have hO := HO.out.toEnd 8 [6, 0, 1, 2, 3, 4, 5, 7] rfl rfl
 replace HO := Hi (show Own _ _ _ [resZ a0 (saZ2 []), glR g, rowQs (.slice ua 1 uc) [⟨1, 20101, saQ⟩], rowR (.slice (some ⟨ge, 0, none⟩) 2 2) 49 5 2 (exRs.flatMap cRc), blkR bu (.cells #[.int .i64 53, .int .i64 20101, .string us] 56), rowQs (.slice vax17 0 vcx17) [], rowQs (.slice vax18 0 vcx18) [], _] from hO)
 clear hO
 go_wp2_with fail
 refine (o_frame (A := [rowQs (.slice ua 1 uc) [⟨1, 20101, saQ⟩], rowR (.slice (some ⟨ge, 0, none⟩) 2 2) 49 5 2 (exRs.flatMap cRc), blkR bu (.cells #[.int .i64 53, .int .i64 20101, .string us] 56), rowQs (.slice vax17 0 vcx17) [], rowQs (.slice vax18 0 vcx18) [], resDn wx19 [⟨1, 0, [9]⟩]]) (B := [resZ a0 (saZ2 []), glR g]) (Q := fun e B' => ∃ u, e = .returned (.tuple #[.int .i64 2, u, .int .i64 0]) ∧ B' = [resZ a0 (saZ4 [⟨2, 0, [9]⟩]), glR g, rowQs u []]) (HO.out.toEnd 8 [2, 3, 4, 5, 6, 7, 0, 1] rfl rfl) (fun D' hD => (resolve_z (now := 2) (nm := nC) hD (saZ2_ok (by decide)) (by decide +kernel) (show (0 : Nat) < 8 by decide) (show (1 : Int) ≤ 100000 by decide) (show (0 : Int) ≤ 1 by decide) (show (1 : Int) ≤ 100000 by decide)).mono fun e w' ⟨b, u, h1, h2, h3⟩ => ⟨_, ⟨u, h1, rfl⟩, by rw [sa_4] at h2; exact h2, h3⟩)).mono ?_
 rintro e x20 ⟨B', ⟨vx20, rfl, rfl⟩, hO, -⟩
 replace HO := Hi (show Own _ _ _ [rowQs (.slice ua 1 uc) [⟨1, 20101, saQ⟩], rowR (.slice (some ⟨ge, 0, none⟩) 2 2) 49 5 2 (exRs.flatMap cRc), blkR bu (.cells #[.int .i64 53, .int .i64 20101, .string us] 56), rowQs (.slice vax17 0 vcx17) [], rowQs (.slice vax18 0 vcx18) [], resDn wx19 [⟨1, 0, [9]⟩], resZ a0 (saZ4 [⟨2, 0, [9]⟩]), glR g, rowQs vx20 []] from hO)
 clear hO
 have hO := HO.out.toEnd 9 [6, 7, 0, 1, 2, 3, 4, 5, 8] rfl rfl
 replace HO := Hi (show Own _ _ _ [resZ a0 (saZ4 [⟨2, 0, [9]⟩]), glR g, rowQs (.slice ua 1 uc) [⟨1, 20101, saQ⟩], rowR (.slice (some ⟨ge, 0, none⟩) 2 2) 49 5 2 (exRs.flatMap cRc), blkR bu (.cells #[.int .i64 53, .int .i64 20101, .string us] 56), rowQs (.slice vax17 0 vcx17) [], rowQs (.slice vax18 0 vcx18) [], resDn wx19 [⟨1, 0, [9]⟩], _] from hO)
 clear hO
 obtain ⟨vax20, vcx20, rfl⟩ := row_shape (HO.out.row 8 rfl)
 replace HO := Hi (show Own w D x20 [resZ a0 (saZ4 [⟨2, 0, [9]⟩]), glR g, rowQs (.slice ua 1 uc) [⟨1, 20101, saQ⟩], rowR (.slice (some ⟨ge, 0, none⟩) 2 2) 49 5 2 (exRs.flatMap cRc), blkR bu (.cells #[.int .i64 53, .int .i64 20101, .string us] 56), rowQs (.slice vax17 0 vcx17) [], rowQs (.slice vax18 0 vcx18) [], resDn wx19 [⟨1, 0, [9]⟩], rowQs (.slice vax20 0 vcx20) []] from HO.out)
 go_wp2_with fail
 refine (o_frameV [glR g, rowQs (.slice ua 1 uc) [⟨1, 20101, saQ⟩], rowR (.slice (some ⟨ge, 0, none⟩) 2 2) 49 5 2 (exRs.flatMap cRc), blkR bu (.cells #[.int .i64 53, .int .i64 20101, .string us] 56), rowQs (.slice vax17 0 vcx17) [], rowQs (.slice vax18 0 vcx18) [], resDn wx19 [⟨1, 0, [9]⟩], rowQs (.slice vax20 0 vcx20) []] [resZ a0 (saZ4 [⟨2, 0, [9]⟩])] (fun u => [resZ a0 (saZ4 []), resDn u [⟨2, 0, [9]⟩]]) (HO.out.toEnd 9 [1, 2, 3, 4, 5, 6, 7, 8, 0] rfl rfl) (fun D' hD => results_z hD)).mono ?_
 rintro e x21 ⟨wx21, rfl, hO, -⟩
 replace HO := Hi (show Own _ _ _ [glR g, rowQs (.slice ua 1 uc) [⟨1, 20101, saQ⟩], rowR (.slice (some ⟨ge, 0, none⟩) 2 2) 49 5 2 (exRs.flatMap cRc), blkR bu (.cells #[.int .i64 53, .int .i64 20101, .string us] 56), rowQs (.slice vax17 0 vcx17) [], rowQs (.slice vax18 0 vcx18) [], resDn wx19 [⟨1, 0, [9]⟩], rowQs (.slice vax20 0 vcx20) [], resZ a0 (saZ4 []), resDn wx21 [⟨2, 0, [9]⟩]] from hO)
 clear hO
 have hO := HO.out.toEnd 10 [8, 0, 1, 2, 3, 4, 5, 6, 7, 9] rfl rfl
 replace HO := Hi (show Own _ _ _ [resZ a0 (saZ4 []), glR g, rowQs (.slice ua 1 uc) [⟨1, 20101, saQ⟩], rowR (.slice (some ⟨ge, 0, none⟩) 2 2) 49 5 2 (exRs.flatMap cRc), blkR bu (.cells #[.int .i64 53, .int .i64 20101, .string us] 56), rowQs (.slice vax17 0 vcx17) [], rowQs (.slice vax18 0 vcx18) [], resDn wx19 [⟨1, 0, [9]⟩], rowQs (.slice vax20 0 vcx20) [], _] from hO)
 clear hO
 go_wp2_with fail
 refine (o_still HO.out (resolve_name 2 _ HV.out.1 (by decide))).mono ?_
 rintro e x22 ⟨rfl, hO, -⟩
 replace HO := Hi hO
 clear hO
 have r4 := run_bsI1 0
 obtain ⟨x23, hx23, g2, hg2, hO⟩ := HO.out.allocE (.cells #[.int .i64 0] 3)
 replace HO := Hi (show Own _ _ _ [_, _, _, _, _, _, _, _, _, _, blkR g2 (.cells #[.int .i64 0] 3)] from hO)
 clear hO
 have hQ := HO.out.toRowQ 10 1 1 rfl rfl (by decide)
 replace HO := Hi (show Own w D x23 [_, _, _, _, _, _, _, _, _, _, rowR (.slice (some ⟨g2, 0, none⟩) 1 1) 3 1 1 [.int .i64 0]] from hQ)
 clear hQ
 go_wp2_with fail
 refine (o_same HO.out (new_bad _ (HO.out.row 10 rfl))).mono ?_
 rintro e x24 ⟨rfl, hO, -⟩
 replace HO := Hi hO
 clear hO
 clear hx23 hg2
 clear r4
 have hO := HO.out.rowNew 3 1
 replace HO := Hi (show Own _ _ _ [_, _, _, _, _, _, _, _, _, _, _, rowVs (.slice none 0 0) []] from hO)
 clear hO
 go_wp2_with fail
 refine (rnew_o (xs := []) (n := 0) (sd := 7) HO.out 11 rfl rfl (by decide) (fun j hj => absurd hj (by simp)) (fun j k hj => absurd hj (by simp)) (by decide) (by decide)).mono ?_
 rintro e x25 ⟨a7, rfl, hO, -⟩
 replace hO := newZ hO
 replace HO := Hi (show Own _ _ _ [_, _, _, _, _, _, _, _, _, _, _, _, resZ a7 ⟨[], 7, [], 0, 0, [], []⟩] from hO)
 clear hO
 go_wp2_with fail
 refine (o_still HO.out (resolve_srv (L := [resZ a0 (saZ4 []), glR g, rowQs (.slice ua 1 uc) [⟨1, 20101, saQ⟩], rowR (.slice (some ⟨ge, 0, none⟩) 2 2) 49 5 2 (exRs.flatMap cRc), blkR bu (.cells #[.int .i64 53, .int .i64 20101, .string us] 56), rowQs (.slice vax17 0 vcx17) [], rowQs (.slice vax18 0 vcx18) [], resDn wx19 [⟨1, 0, [9]⟩], rowQs (.slice vax20 0 vcx20) [], resDn wx21 [⟨2, 0, [9]⟩], rowR (.slice (some ⟨g2, 0, none⟩) 1 1) 3 1 1 [.int .i64 0], rowVs (.slice none 0 0) []]) 0 (HO.out.toEnd 13 [12, 0, 1, 2, 3, 4, 5, 6, 7, 8, 9, 10, 11] rfl rfl) HV.out.2 (by decide) rfl)).mono ?_
 rintro e x26 ⟨rfl, hO, -⟩
 replace HO := Hi hO
 clear hO
 have HA := Hi HO.out
 have r5 := run_bdQ saQ
 have r6 := run_bsQ1 saQ
 have r7 := run_bsI1 9
 obtain ⟨x27, hx27, g3, hg3, hO⟩ := HO.out.allocE (.cells #[.int .i64 1, .int .i64 20101, .string saQ] 37)
 replace HO := Hi (show Own _ _ _ [_, _, _, _, _, _, _, _, _, _, _, _, _, blkR g3 (.cells #[.int .i64 1, .int .i64 20101, .string saQ] 37)] from hO)
 clear hO
 have HQ3 := Hi (HO.out.toRowQ 13 1 3 rfl rfl (by decide))
 go_wp2_with fail
 refine (o_still HO.out (sameQ_r (q := [⟨1, 20101, saQ⟩]) _ (HO.out.row 2 rfl) (HQ3.out.row 13 rfl) rfl (by decide))).mono ?_
 rintro e x28 ⟨rfl, hO, -⟩
 clear HQ3
 replace HO := Hi hO
 clear hO
 clear hx27 hg3
 obtain ⟨x29, hx29, g4, hg4, hO⟩ := HO.out.allocE (.cells #[.int .i64 9] 3)
 replace HO := Hi (show Own _ _ _ [_, _, _, _, _, _, _, _, _, _, _, _, _, _, blkR g4 (.cells #[.int .i64 9] 3)] from hO)
 clear hO
 have r8 := run_bdRs 1 g4
 have r9 := run_bsRs 1 g4
 obtain ⟨x30, hx30, g5, hg5, hO⟩ := HO.out.allocE (.cells #[.int .i64 1, .int .i64 0, .slice (some ⟨g4, 0, none⟩) 1 1] 63)
 replace HO := Hi (show Own _ _ _ [_, _, _, _, _, _, _, _, _, _, _, _, _, _, _, blkR g5 (.cells #[.int .i64 1, .int .i64 0, .slice (some ⟨g4, 0, none⟩) 1 1] 63)] from hO)
 clear hO
 have HL := Hi (rdrn_one (w := x30) (g := g5) (c := 1) (d := ⟨1, 0, [9]⟩) (HO.out.cell 15 rfl 0 rfl) (HO.out.cell 15 rfl 1 rfl) (HO.out.cell 15 rfl 2 rfl) rfl (by decide) (one_at ⟨g4, rfl, HO.out.cell 14 rfl 0 rfl⟩))
 go_wp2_with fail
 refine (o_still HO.out (sameF_r _ (rdrn_own HO.out 7 rfl (by show 1 ≤ 1000; decide)) HL.out (by decide))).mono ?_
 rintro e x31 ⟨rfl, hO, -⟩
 clear HL r8 r9
 replace HO := Hi hO
 clear hO
 clear hx29 hg4 hx30 hg5
 obtain ⟨x32, hx32, g6, hg6, hO⟩ := HO.out.allocE (.cells #[.int .i64 9] 3)
 replace HO := Hi (show Own _ _ _ [_, _, _, _, _, _, _, _, _, _, _, _, _, _, _, _, blkR g6 (.cells #[.int .i64 9] 3)] from hO)
 clear hO
 have r8 := run_bdRs 2 g6
 have r9 := run_bsRs 2 g6
 obtain ⟨x33, hx33, g7, hg7, hO⟩ := HO.out.allocE (.cells #[.int .i64 2, .int .i64 0, .slice (some ⟨g6, 0, none⟩) 1 1] 63)
 replace HO := Hi (show Own _ _ _ [_, _, _, _, _, _, _, _, _, _, _, _, _, _, _, _, _, blkR g7 (.cells #[.int .i64 2, .int .i64 0, .slice (some ⟨g6, 0, none⟩) 1 1] 63)] from hO)
 clear hO
 have HL := Hi (rdrn_one (w := x33) (g := g7) (c := 1) (d := ⟨2, 0, [9]⟩) (HO.out.cell 17 rfl 0 rfl) (HO.out.cell 17 rfl 1 rfl) (HO.out.cell 17 rfl 2 rfl) rfl (by decide) (one_at ⟨g6, rfl, HO.out.cell 16 rfl 0 rfl⟩))
 go_wp2_with fail
 refine (o_still HO.out (sameF_r _ (rdrn_own HO.out 9 rfl (by show 1 ≤ 1000; decide)) HL.out (by decide))).mono ?_
 rintro e x34 ⟨rfl, hO, -⟩
 clear HL r8 r9
 replace HO := Hi hO
 clear hO
 clear hx32 hg6 hx33 hg7
 go_wp2
 go_ret
 exact ⟨rfl, HO.out.toEnd 18 [1] rfl rfl, HO.out.size⟩
end Go.Proofs.YtbolfkojebbejaaGreatDoor
