/- The resolver's Receive, at a datagram that holds the encoding of a valid message. Printed by wip/tools/gen21o.py. -/
import Derived.Test.YtbolfkojebbejaaGreatDoorRan
import Derived.Test.YtbolfkojebbejaaGreatDoorDv
set_option linter.unusedVariables false
set_option maxRecDepth 100000
set_option maxHeartbeats 32000000
namespace Go.Proofs.YtbolfkojebbejaaGreatDoor
open Go.RowKit Go.Sort
variable {D : Nat → Prop} {w : World} {s : ByteArray} {nm : ByteArray} {rs : List Rc}
attribute [local go_sem] Oper.semAt_some

def hitK (sd fr tp id : Int) (nm : ByteArray) (p : Nat × Lk) : Bool := (tp == 20000 + (sd + 101 * p.2.nu) % 10000) && (fr == p.2.sv) && (id == (sd + 7919 * p.2.nu) % 65536) && (nm.toList == (lastN p.2.ch).toList)
def rcvZ (now : Int) (z : Rz) (fr fp tp : Int) (d : Dm) : Bool × Rz × List Qy :=
 if fp = 53 ∧ d.an = true ∧ d.kd = 1 then
  match z.wl.findIdx? (hitK z.sd fr tp d.id d.nm) with
  | none => (false, z, [])
  | some i => match z.wl[i]? with
   | none => (false, z, [])
   | some p => (true, ansZ now z i p.1 p.2 d.cd d.rs)
 else (false, z, [])
theorem find_idx {α : Type} {p : α → Bool} {l : List α} {k : Nat} (hk : k < l.length) (h : ∀ x ∈ l.take k, p x = false) (hp : p l[k] = true) : l.findIdx? p = some k := by
 rw [List.findIdx?_eq_some_iff_getElem]
 refine ⟨hk, hp, fun j hj => ?_⟩
 have := h l[j] (List.mem_take_iff_getElem.2 ⟨j, by omega, rfl⟩)
 simp [this]
theorem find_idx_none {α : Type} {p : α → Bool} {l : List α} (h : ∀ x ∈ l, p x = false) : l.findIdx? p = none := by
 rw [List.findIdx?_eq_none_iff]; exact h
theorem take_all {α : Type} {p : α → Bool} {l : List α} {k : Nat} (hk : k < l.length) (h : ∀ x ∈ l.take k, p x = false) (hp : p l[k] = false) : ∀ x ∈ l.take (k + 1), p x = false := by
 rw [List.take_succ_eq_append_getElem hk]
 intro x hx
 rcases List.mem_append.1 hx with hx | hx
 ·
  exact h x hx
 ·
  obtain rfl := List.mem_singleton.1 hx; exact hp
def RcvP (w0 : World) (D : Nat → Prop) (w : World) (a : Nat) (g : Glo) (r : Bool × Rz × List Qy) (e : Ending) (w' : World) : Prop := ∃ u, e = .returned (.tuple #[.bool r.1, u]) ∧ Own w0 D w' [resZ a r.2.1, glR g, rowQs u r.2.2] ∧ w.heap.size ≤ w'.heap.size
theorem receive_port {a : Nat} {z : Rz} {g : Glo} {now fr fp tp : Int} (h : Own w D w [resZ a z, glR g]) (hfp : fp ≠ 53) :
  Calls Tryz.prog 24 #[.pointer (some ⟨a, 0, none⟩), .int .i64 now, .int .i64 fr, .agg #[.int .i64 fp, .int .i64 tp, .string s]] w (RcvP w D w a g (false, z, [])) := by
 have hd1 : (fp == 53) = false := beq_eq_false_iff_ne.2 hfp
 have hd2 : (!(fp == 53)) = true := by rw [hd1]; rfl
 have hd3 : decide (fp = 53) = false := decide_eq_false hfp
 have HO := Hi h
 clear h
 obtain ⟨x1, hx1, bu, hbu, hO⟩ := HO.out.allocE (.cells #[.int .i64 fp, .int .i64 tp, .string s] 56)
 replace HO := Hi (show Own w D x1 [resZ a z, glR g, blkR bu (.cells #[.int .i64 fp, .int .i64 tp, .string s] 56)] from hO)
 clear hO
 obtain ⟨z2_0, z2_1, z2_2⟩ := HO.out.c3 2 rfl
 go_enter Tryz.func24, Tryz.ntmps24
 go_wp2
 go_ret2
 exact ⟨_, rfl, (HO.out.rowNew 37 3).toEnd 4 [0, 1, 3] rfl rfl, HO.out.size⟩
theorem receive_msg {a n : Nat} {z : Rz} {g : Glo} {now fr tp id cd kd : Int} {an : Bool} (h : Own w D w [resZ a z, glR g]) (hn : rs.length = n) (hd : DmV ⟨id, an, cd, nm, kd, rs⟩) (hs : s = ⟨(encM ⟨id, an, cd, nm, kd, rs⟩).toArray⟩) (hno : an = false ∨ kd ≠ 1) :
  Calls Tryz.prog 24 #[.pointer (some ⟨a, 0, none⟩), .int .i64 now, .int .i64 fr, .agg #[.int .i64 53, .int .i64 tp, .string s]] w (RcvP w D w a g (false, z, [])) := by
 have HDE := Hi (fun w => hs ▸ decode_ok (w := w) hn hd)
 have HO := Hi h
 clear h hn hd hs
 obtain ⟨x11, hx11, bu, hbu, hO⟩ := HO.out.allocE (.cells #[.int .i64 53, .int .i64 tp, .string s] 56)
 replace HO := Hi (show Own w D x11 [resZ a z, glR g, blkR bu (.cells #[.int .i64 53, .int .i64 tp, .string s] 56)] from hO)
 clear hO
 obtain ⟨z2_0, z2_1, z2_2⟩ := HO.out.c3 2 rfl
 go_enter Tryz.func24, Tryz.ntmps24
 go_wp2_with fail
 refine (HDE.out x11).mono ?_
 rintro e x5 ⟨vr, rfl, hOd⟩
 have hO := HO.out.joinC hOd
 obtain ⟨ra, rc, rfl⟩ := row_shape (hOd.row 0 rfl)
 replace HO := Hi (show Own _ _ _ [_, _, _, rowR (.slice ra n rc) 49 5 n (rs.flatMap cRc)] from hO)
 clear hO hOd HDE
 clear hx11 hbu z2_0 z2_1 z2_2
 obtain ⟨x12, hx12, bd, hbd, hO⟩ := HO.out.allocE (.cells #[.int .i64 0, .bool false, .int .i64 0, .string ⟨#[]⟩, .int .i64 0, .slice none 0 0] 86)
 replace HO := Hi (show Own _ _ _ [_, _, _, _, blkR bd (.cells #[.int .i64 0, .bool false, .int .i64 0, .string ⟨#[]⟩, .int .i64 0, .slice none 0 0] 86)] from hO)
 clear hO
 obtain ⟨x19, x25, x30, x34, x37, x39, hx19, hx25, hx30, hx34, hx37, hx39, k4_0_13, lk4_0_13, k4_1_20, lk4_1_20, k4_2_26, lk4_2_26, k4_3_31, lk4_3_31, k4_4_35, lk4_4_35, k4_5_38, lk4_5_38, hO⟩ := HO.out.steps6 4 rfl (.int .i64 id) (.bool an) (.int .i64 cd) (.string nm) (.int .i64 kd) (.slice ra n rc)
 replace HO := Hi (show Own _ _ _ [_, _, _, _, blkR bd (.cells #[.int .i64 id, .bool an, .int .i64 cd, .string nm, .int .i64 kd, .slice ra n rc] 86)] from hO)
 clear hO
 obtain ⟨z4_0, z4_1, z4_2, z4_3, z4_4, z4_5⟩ := HO.out.c6 4 rfl
 obtain ⟨z2_0, z2_1, z2_2⟩ := HO.out.c3 2 rfl
 rcases hno with rfl | hk
 ·
  go_wp2
  go_ret2
  exact ⟨_, rfl, (HO.out.rowNew 37 3).toEnd 6 [0, 1, 5] rfl rfl, HO.out.size⟩
 ·
  have hd1 : (kd == 1) = false := beq_eq_false_iff_ne.2 hk
  cases an with
  | false =>
   go_wp2
   go_ret2
   exact ⟨_, rfl, (HO.out.rowNew 37 3).toEnd 6 [0, 1, 5] rfl rfl, HO.out.size⟩
  | true =>
   go_wp2
   go_ret2
   exact ⟨_, rfl, (HO.out.rowNew 37 3).toEnd 6 [0, 1, 5] rfl rfl, HO.out.size⟩
theorem z_at {w0 w : World} {L : List Res} {wl : List (Nat × Lk)} {i b : Nat} {k : Lk} (h : Own w0 D w (resKs wl :: L)) (hi : wl[i]? = some (b, k)) : ∃ v, Own w0 D w (blkK b v k :: rowK v k.ch :: resKs (wl.eraseIdx i) :: L) := openK (takeK hi h)
theorem receive_go {a n : Nat} {z : Rz} {g : Glo} {now fr tp id cd : Int} (h : Own w D w [resZ a z, glR g]) (hn : rs.length = n) (hd : DmV ⟨id, true, cd, nm, 1, rs⟩) (hs : s = ⟨(encM ⟨id, true, cd, nm, 1, rs⟩).toArray⟩)
  (hz : ZI z) (hc : CInv now z.es) (hg : g.ok = true) (q1 : z.qn ≤ 100000) (hrl : n ≤ 200) (hrs : ∀ r ∈ rs, r.kd = 1 ∨ vname r.to = true) (hsz : ∀ r ∈ rs, r.nm.size ≤ maxLen ∧ r.to.size ≤ maxLen) (hnu : ∀ p ∈ z.wl, 0 ≤ p.2.nu ∧ p.2.nu ≤ 1000000) :
  Calls Tryz.prog 24 #[.pointer (some ⟨a, 0, none⟩), .int .i64 now, .int .i64 fr, .agg #[.int .i64 53, .int .i64 tp, .string s]] w (RcvP w D w a g (rcvZ now z fr 53 tp ⟨id, true, cd, nm, 1, rs⟩)) := by
 have HDE := Hi (fun w => hs ▸ decode_ok (w := w) hn hd)
 have HO := Hi h
 have HZ := Hi hz
 have HAN := Hi (show ∀ (w : World) (D : Nat → Prop) (b i : Nat) (z' : Rz) (k : Lk) (q : List Qy) (vr : Value), Own w D w [resZ a z, glR g, rowRc vr rs] → z.wl[i]? = some (b, k) → ansZ now z i b k cd rs = (z', q) → Calls Tryz.prog 73 #[.pointer (some ⟨a, 0, none⟩), .int .i64 now, .pointer (some ⟨b, 0, none⟩), .agg #[.int .i64 id, .bool true, .int .i64 cd, .string nm, .int .i64 1, vr]] w (VPost w D w fun u => [resZ a z', glR g, rowRc vr rs, rowQs u q]) from
  fun w D b i z' k q vr ho hi hr => answer_z ho hz hc hg q1 (by rw [hn]; exact hrl) hrs hsz hi hr)
 have HNU := Hi hnu
 have HN := Hi hn
 obtain ⟨m, hm⟩ : ∃ m, z.wl.length = m := ⟨_, rfl⟩
 have HM := Hi hm
 have hm1 : m ≤ 100 := by rw [← hm]; exact hz.wl
 clear h hd hs hz hc hg q1 hrs hsz hnu hm
 obtain ⟨x11, hx11, bu, hbu, hO⟩ := HO.out.allocE (.cells #[.int .i64 53, .int .i64 tp, .string s] 56)
 replace HO := Hi (show Own w D x11 [resZ a z, glR g, blkR bu (.cells #[.int .i64 53, .int .i64 tp, .string s] 56)] from hO)
 clear hO
 obtain ⟨z2_0, z2_1, z2_2⟩ := HO.out.c3 2 rfl
 go_enter Tryz.func24, Tryz.ntmps24
 go_wp2_with fail
 refine (HDE.out x11).mono ?_
 rintro e x5 ⟨vr, rfl, hOd⟩
 have hO := HO.out.joinC hOd
 obtain ⟨ra, rc, rfl⟩ := row_shape (hOd.row 0 rfl)
 replace HO := Hi (show Own _ _ _ [_, _, _, rowR (.slice ra n rc) 49 5 n (rs.flatMap cRc)] from hO)
 clear hO hOd HDE
 clear hx11 hbu z2_0 z2_1 z2_2
 obtain ⟨x12, hx12, bd, hbd, hO⟩ := HO.out.allocE (.cells #[.int .i64 0, .bool false, .int .i64 0, .string ⟨#[]⟩, .int .i64 0, .slice none 0 0] 86)
 replace HO := Hi (show Own _ _ _ [_, _, _, _, blkR bd (.cells #[.int .i64 0, .bool false, .int .i64 0, .string ⟨#[]⟩, .int .i64 0, .slice none 0 0] 86)] from hO)
 clear hO
 obtain ⟨x19, x25, x30, x34, x37, x39, hx19, hx25, hx30, hx34, hx37, hx39, k4_0_13, lk4_0_13, k4_1_20, lk4_1_20, k4_2_26, lk4_2_26, k4_3_31, lk4_3_31, k4_4_35, lk4_4_35, k4_5_38, lk4_5_38, hO⟩ := HO.out.steps6 4 rfl (.int .i64 id) (.bool true) (.int .i64 cd) (.string nm) (.int .i64 1) (.slice ra n rc)
 replace HO := Hi (show Own _ _ _ [_, _, _, _, blkR bd (.cells #[.int .i64 id, .bool true, .int .i64 cd, .string nm, .int .i64 1, .slice ra n rc] 86)] from hO)
 clear hO
 obtain ⟨z4_0, z4_1, z4_2, z4_3, z4_4, z4_5⟩ := HO.out.c6 4 rfl
 obtain ⟨z2_0, z2_1, z2_2⟩ := HO.out.c3 2 rfl
 obtain ⟨avs, ⟨vsv, c, vw, vd⟩, hl, hO⟩ := openZV HO.out
 have HAL := Hi hl
 obtain ⟨wa, wc, hvw⟩ := row_shape (hO.row 3 rfl)
 rw [List.length_map, HM.out] at hvw
 subst hvw
 clear hl
 have hO2 := hO
 unfold partsZ rowVw at hO2
 rw [List.length_map, HM.out] at hO2
 replace HO := Hi (show Own w D x39 [blkR a (.cells #[vsv, .int .i64 z.sd, .pointer (some ⟨c, 0, none⟩), .int .i64 z.tk, .int .i64 z.qn, .slice wa m wc, vd] 128), rowVs vsv z.sv, resC c z.es, rowR (.slice wa m wc) 129 1 m ((z.wl.map (·.1)).map cPt), rowVd vd z.dn.length (rnCs avs z.dn), resKs z.wl, sepR (rnRs avs z.dn), glR g, blkR bu (.cells #[.int .i64 53, .int .i64 tp, .string s] 56), rowR (.slice ra n rc) 49 5 n (rs.flatMap cRc), blkR bd (.cells #[.int .i64 id, .bool true, .int .i64 cd, .string nm, .int .i64 1, .slice ra n rc] 86)] from hO2)
 clear hO hO2
 clear z4_0 z4_1 z4_2 z4_3 z4_4 z4_5 z2_0 z2_1 z2_2
 have z0_5 : x39.cell? _ = some (.slice wa m wc) := HO.out.cell 0 rfl 5 rfl
 obtain ⟨z10_0, z10_1, z10_2, z10_3, z10_4, z10_5⟩ := HO.out.c6 10 rfl
 obtain ⟨z8_0, z8_1, z8_2⟩ := HO.out.c3 8 rfl
 go_wp2
 clear z0_5 z10_0 z10_1 z10_2 z10_3 z10_4 z10_5 z8_0 z8_1 z8_2
 go_loopw [13, 45] (fun lv iv wr => ∃ j : Nat, j ≤ m ∧ iv = .int .i64 j ∧ (∀ p ∈ z.wl.take j, hitK z.sd fr tp id nm p = false) ∧ Own w D wr [blkR a (.cells #[vsv, .int .i64 z.sd, .pointer (some ⟨c, 0, none⟩), .int .i64 z.tk, .int .i64 z.qn, .slice wa m wc, vd] 128), rowVs vsv z.sv, resC c z.es, rowR (.slice wa m wc) 129 1 m ((z.wl.map (·.1)).map cPt), rowVd vd z.dn.length (rnCs avs z.dn), resKs z.wl, sepR (rnRs avs z.dn), glR g, blkR bu (.cells #[.int .i64 53, .int .i64 tp, .string s] 56), rowR (.slice ra n rc) 49 5 n (rs.flatMap cRc), blkR bd (.cells #[.int .i64 id, .bool true, .int .i64 cd, .string nm, .int .i64 1, .slice ra n rc] 86)]) (fun _ iv _ => m - (intOf iv).toNat)
 case atStart => exact ⟨0, Nat.zero_le _, rfl, fun p hp => (by cases hp), HO.out⟩
 case round =>
  obtain ⟨j, hj, rfl, hno, hO⟩ := hrel
  have HNO := Hi hno
  clear HO hno
  have HO := Hi hO
  clear hO
  have hb1 : (m : Int) ≤ 100 := by omega
  by_cases hlt : j < m
  ·
   have hkl : j < z.wl.length := by rw [HM.out]; exact hlt
   obtain ⟨⟨b, k⟩, hbk⟩ : ∃ p, z.wl[j] = p := ⟨_, rfl⟩
   have HJ := Hi (show z.wl[j]? = some (b, k) by rw [List.getElem?_eq_getElem hkl, hbk])
   have HTA := Hi (take_all (p := hitK z.sd fr tp id nm) hkl HNO.out)
   have HFI := Hi (find_idx (p := hitK z.sd fr tp id nm) hkl HNO.out)
   rw [hbk] at HTA HFI
   obtain ⟨gw, rfl⟩ := row_some (HO.out.row 3 rfl) (by omega)
   have y0 : wr.cell? ⟨gw, j, none⟩ = some (.pointer (some ⟨b, 0, none⟩)) := (row_cells (HO.out.row 3 rfl)).1 j _ (by rw [List.getElem?_map, List.getElem?_map, HJ.out]; rfl)
   obtain ⟨v, hOK⟩ := z_at (HO.out.toEnd 11 [5, 0, 1, 2, 3, 4, 6, 7, 8, 9, 10] rfl rfl) HJ.out
   have HOK := Hi hOK
   have HKO := Hi (HZ.out.lk _ (List.mem_of_getElem? HJ.out))
   have HKN := Hi (HNU.out _ (List.mem_of_getElem? HJ.out))
   have HSD := Hi (And.intro HZ.out.d0 HZ.out.d1)
   obtain ⟨kt, kc, kr, ku, ks, kv⟩ := k
   have c1 := cell_regrown (show wr.cell? ⟨b, 3, none⟩ = some (.int .i64 ku) from HOK.out.cell 0 rfl 3 rfl)
   have c2 := cell_regrown (show wr.cell? ⟨b, 5, none⟩ = some (.int .i64 kv) from HOK.out.cell 0 rfl 5 rfl)
   have c3 := cell_regrown (show wr.cell? ⟨bu, 1, none⟩ = some (.int .i64 tp) from HOK.out.cell 10 rfl 1 rfl)
   have c4 := cell_regrown (show wr.cell? ⟨bd, 0, none⟩ = some (.int .i64 id) from HOK.out.cell 12 rfl 0 rfl)
   have c5 := cell_regrown (show wr.cell? ⟨bd, 3, none⟩ = some (.string nm) from HOK.out.cell 12 rfl 3 rfl)
   have HPO := Hi (show ∀ w', Below wr.heap.size wr w' → _ from fun w' hb => rport_r (a := a) (k := ku) w' ((HO.out.stay hb).cell 0 rfl 1 rfl) HSD.out.1 HSD.out.2 HKN.out.1 HKN.out.2)
   have HID := Hi (show ∀ w', Below wr.heap.size wr w' → _ from fun w' hb => id_r (a := a) (k := ku) w' ((HO.out.stay hb).cell 0 rfl 1 rfl) HSD.out.1 HSD.out.2 HKN.out.1 HKN.out.2)
   have HCU := Hi (show ∀ w', Below wr.heap.size wr w' → _ from fun w' hb => cur_own (b := b) (k := ⟨kt, kc, kr, ku, ks, kv⟩) (hOK.stay hb) 0 rfl 1 rfl ⟨HKO.out.c0, HKO.out.c1⟩ rfl)
   clear hOK hbk HKN HSD
   have hd : decide ((j : Int) < (m : Int)) = true := decide_eq_true (by omega)
   obtain ⟨pt, hpt⟩ : ∃ x, 20000 + (z.sd + 101 * ku) % 10000 = x := ⟨_, rfl⟩
   obtain ⟨ix, hix⟩ : ∃ x, (z.sd + 7919 * ku) % 65536 = x := ⟨_, rfl⟩
   obtain ⟨cn, hcn⟩ : ∃ x, lastN kc = x := ⟨_, rfl⟩
   have HHK := Hi (show hitK z.sd fr tp id nm (b, ⟨kt, kc, kr, ku, ks, kv⟩) = ((tp == pt) && (fr == kv) && (id == ix) && (nm.toList == cn.toList)) by unfold hitK; rw [← hpt, ← hix, ← hcn])
   have HCU2 := Hi (show ∀ w', Below wr.heap.size wr w' → Calls Tryz.prog 72 #[.pointer (some ⟨b, 0, none⟩)] w' fun e w'' => e = .returned (.string cn) ∧ Below w'.heap.size w' w'' from hcn ▸ HCU.out)
   rw [hpt] at HPO
   rw [hix] at HID
   clear hpt hix hcn HCU
   go_wp2
   cases e1 : (tp == pt) with
   | false =>
    refine wp_region_B (by kernel_rfl) (by kernel_rfl) ?_
    repeat (go_big_quiet_step (first | (go_at_call 70; exact Calls.regrown_of ((HPO.out _ (below_regrown _ _ _)).mono fun e w' h => ⟨h.1, h.2 ▸ Below.refl _ _⟩)) | (go_at_call 71; exact Calls.regrown_of ((HID.out _ (below_regrown _ _ _)).mono fun e w' h => ⟨h.1, h.2 ▸ Below.refl _ _⟩)) | (go_at_call 72; exact Calls.regrown_of (HCU2.out _ (below_regrown _ _ _)))))
    refine wpQuiet_nil ?_
    intro x60 hbw
    have hO := HO.out.stay hbw
    have hOK := HOK.out.stay hbw
    have HBW := Hi hbw
    replace HO := Hi (show Own w D x60 [blkR a (.cells #[vsv, .int .i64 z.sd, .pointer (some ⟨c, 0, none⟩), .int .i64 z.tk, .int .i64 z.qn, .slice (some ⟨gw, 0, none⟩) m wc, vd] 128), rowVs vsv z.sv, resC c z.es, rowR (.slice (some ⟨gw, 0, none⟩) m wc) 129 1 m ((z.wl.map (·.1)).map cPt), rowVd vd z.dn.length (rnCs avs z.dn), resKs z.wl, sepR (rnRs avs z.dn), glR g, blkR bu (.cells #[.int .i64 53, .int .i64 tp, .string s] 56), rowR (.slice ra n rc) 49 5 n (rs.flatMap cRc), blkR bd (.cells #[.int .i64 id, .bool true, .int .i64 cd, .string nm, .int .i64 1, .slice ra n rc] 86)] from hO)
    replace HOK := Hi hOK
    clear hO hOK hbw
    clear c1 c2 c3 c4 c5
    clear y0
    have c1 := cell_regrown (show x60.cell? ⟨b, 3, none⟩ = some (.int .i64 ku) from HOK.out.cell 0 rfl 3 rfl)
    have c4 := cell_regrown (show x60.cell? ⟨bd, 0, none⟩ = some (.int .i64 id) from HOK.out.cell 12 rfl 0 rfl)
    have c5 := cell_regrown (show x60.cell? ⟨bd, 3, none⟩ = some (.string nm) from HOK.out.cell 12 rfl 3 rfl)
    have HID2 := Hi (show ∀ w', Below x60.heap.size x60 w' → _ from fun w' hb => HID.out w' (below_mid HBW.out hb))
    have HCU3 := Hi (show ∀ w', Below x60.heap.size x60 w' → _ from fun w' hb => HCU2.out w' (below_mid HBW.out hb))
    go_wp2
    refine wp_region_B (by kernel_rfl) (by kernel_rfl) ?_
    repeat (go_big_quiet_step (first | (go_at_call 70; exact Calls.regrown_of ((HPO.out _ (below_regrown _ _ _)).mono fun e w' h => ⟨h.1, h.2 ▸ Below.refl _ _⟩)) | (go_at_call 71; exact Calls.regrown_of ((HID2.out _ (below_regrown _ _ _)).mono fun e w' h => ⟨h.1, h.2 ▸ Below.refl _ _⟩)) | (go_at_call 72; exact Calls.regrown_of (HCU3.out _ (below_regrown _ _ _)))))
    refine wpQuiet_nil ?_
    intro x61 hbw2
    have hO := HO.out.stay hbw2
    have hOK := HOK.out.stay hbw2
    replace HO := Hi hO
    replace HOK := Hi hOK
    clear hO hOK hbw2 c1 c4 c5 HID2 HCU3
    have HT := Hi (HTA.out (by rw [HHK.out]; simp [e1]))
    clear HTA HFI
    go_wp2
    go_roundw
    case rel => exact ⟨j + 1, by omega, by go_num, HT.out, HO.out⟩
    case measure => simp [intOf]; omega
   | true =>
    cases e2 : (fr == kv) with
    | false =>
     refine wp_region_B (by kernel_rfl) (by kernel_rfl) ?_
     repeat (go_big_quiet_step (first | (go_at_call 70; exact Calls.regrown_of ((HPO.out _ (below_regrown _ _ _)).mono fun e w' h => ⟨h.1, h.2 ▸ Below.refl _ _⟩)) | (go_at_call 71; exact Calls.regrown_of ((HID.out _ (below_regrown _ _ _)).mono fun e w' h => ⟨h.1, h.2 ▸ Below.refl _ _⟩)) | (go_at_call 72; exact Calls.regrown_of (HCU2.out _ (below_regrown _ _ _)))))
     refine wpQuiet_nil ?_
     intro x60 hbw
     have hO := HO.out.stay hbw
     have hOK := HOK.out.stay hbw
     have HBW := Hi hbw
     replace HO := Hi (show Own w D x60 [blkR a (.cells #[vsv, .int .i64 z.sd, .pointer (some ⟨c, 0, none⟩), .int .i64 z.tk, .int .i64 z.qn, .slice (some ⟨gw, 0, none⟩) m wc, vd] 128), rowVs vsv z.sv, resC c z.es, rowR (.slice (some ⟨gw, 0, none⟩) m wc) 129 1 m ((z.wl.map (·.1)).map cPt), rowVd vd z.dn.length (rnCs avs z.dn), resKs z.wl, sepR (rnRs avs z.dn), glR g, blkR bu (.cells #[.int .i64 53, .int .i64 tp, .string s] 56), rowR (.slice ra n rc) 49 5 n (rs.flatMap cRc), blkR bd (.cells #[.int .i64 id, .bool true, .int .i64 cd, .string nm, .int .i64 1, .slice ra n rc] 86)] from hO)
     replace HOK := Hi hOK
     clear hO hOK hbw
     clear c1 c2 c3 c4 c5 y0
     have c1 := cell_regrown (show x60.cell? ⟨b, 3, none⟩ = some (.int .i64 ku) from HOK.out.cell 0 rfl 3 rfl)
     have c4 := cell_regrown (show x60.cell? ⟨bd, 0, none⟩ = some (.int .i64 id) from HOK.out.cell 12 rfl 0 rfl)
     have c5 := cell_regrown (show x60.cell? ⟨bd, 3, none⟩ = some (.string nm) from HOK.out.cell 12 rfl 3 rfl)
     have HID2 := Hi (show ∀ w', Below x60.heap.size x60 w' → _ from fun w' hb => HID.out w' (below_mid HBW.out hb))
     have HCU3 := Hi (show ∀ w', Below x60.heap.size x60 w' → _ from fun w' hb => HCU2.out w' (below_mid HBW.out hb))
     go_wp2
     refine wp_region_B (by kernel_rfl) (by kernel_rfl) ?_
     repeat (go_big_quiet_step (first | (go_at_call 70; exact Calls.regrown_of ((HPO.out _ (below_regrown _ _ _)).mono fun e w' h => ⟨h.1, h.2 ▸ Below.refl _ _⟩)) | (go_at_call 71; exact Calls.regrown_of ((HID2.out _ (below_regrown _ _ _)).mono fun e w' h => ⟨h.1, h.2 ▸ Below.refl _ _⟩)) | (go_at_call 72; exact Calls.regrown_of (HCU3.out _ (below_regrown _ _ _)))))
     refine wpQuiet_nil ?_
     intro x61 hbw2
     have hO := HO.out.stay hbw2
     have hOK := HOK.out.stay hbw2
     replace HO := Hi hO
     replace HOK := Hi hOK
     clear hO hOK hbw2 c1 c4 c5 HID2 HCU3
     have HT := Hi (HTA.out (by rw [HHK.out]; simp [e2]))
     clear HTA HFI
     go_wp2
     go_roundw
     case rel => exact ⟨j + 1, by omega, by go_num, HT.out, HO.out⟩
     case measure => simp [intOf]; omega
    | true =>
     refine wp_region_B (by kernel_rfl) (by kernel_rfl) ?_
     repeat (go_big_quiet_step (first | (go_at_call 70; exact Calls.regrown_of ((HPO.out _ (below_regrown _ _ _)).mono fun e w' h => ⟨h.1, h.2 ▸ Below.refl _ _⟩)) | (go_at_call 71; exact Calls.regrown_of ((HID.out _ (below_regrown _ _ _)).mono fun e w' h => ⟨h.1, h.2 ▸ Below.refl _ _⟩)) | (go_at_call 72; exact Calls.regrown_of (HCU2.out _ (below_regrown _ _ _)))))
     refine wpQuiet_nil ?_
     intro x60 hbw
     have hO := HO.out.stay hbw
     have hOK := HOK.out.stay hbw
     have HBW := Hi hbw
     replace HO := Hi (show Own w D x60 [blkR a (.cells #[vsv, .int .i64 z.sd, .pointer (some ⟨c, 0, none⟩), .int .i64 z.tk, .int .i64 z.qn, .slice (some ⟨gw, 0, none⟩) m wc, vd] 128), rowVs vsv z.sv, resC c z.es, rowR (.slice (some ⟨gw, 0, none⟩) m wc) 129 1 m ((z.wl.map (·.1)).map cPt), rowVd vd z.dn.length (rnCs avs z.dn), resKs z.wl, sepR (rnRs avs z.dn), glR g, blkR bu (.cells #[.int .i64 53, .int .i64 tp, .string s] 56), rowR (.slice ra n rc) 49 5 n (rs.flatMap cRc), blkR bd (.cells #[.int .i64 id, .bool true, .int .i64 cd, .string nm, .int .i64 1, .slice ra n rc] 86)] from hO)
     replace HOK := Hi hOK
     clear hO hOK hbw
     clear c1 c2 c3 c4 c5 y0
     cases e3 : (id == ix) with
     | false =>
      have c1 := cell_regrown (show x60.cell? ⟨b, 3, none⟩ = some (.int .i64 ku) from HOK.out.cell 0 rfl 3 rfl)
      have c4 := cell_regrown (show x60.cell? ⟨bd, 0, none⟩ = some (.int .i64 id) from HOK.out.cell 12 rfl 0 rfl)
      have c5 := cell_regrown (show x60.cell? ⟨bd, 3, none⟩ = some (.string nm) from HOK.out.cell 12 rfl 3 rfl)
      have HID2 := Hi (show ∀ w', Below x60.heap.size x60 w' → _ from fun w' hb => HID.out w' (below_mid HBW.out hb))
      have HCU3 := Hi (show ∀ w', Below x60.heap.size x60 w' → _ from fun w' hb => HCU2.out w' (below_mid HBW.out hb))
      go_wp2
      refine wp_region_B (by kernel_rfl) (by kernel_rfl) ?_
      repeat (go_big_quiet_step (first | (go_at_call 70; exact Calls.regrown_of ((HPO.out _ (below_regrown _ _ _)).mono fun e w' h => ⟨h.1, h.2 ▸ Below.refl _ _⟩)) | (go_at_call 71; exact Calls.regrown_of ((HID2.out _ (below_regrown _ _ _)).mono fun e w' h => ⟨h.1, h.2 ▸ Below.refl _ _⟩)) | (go_at_call 72; exact Calls.regrown_of (HCU3.out _ (below_regrown _ _ _)))))
      refine wpQuiet_nil ?_
      intro x61 hbw2
      have hO := HO.out.stay hbw2
      have hOK := HOK.out.stay hbw2
      replace HO := Hi hO
      replace HOK := Hi hOK
      clear hO hOK hbw2 c1 c4 c5 HID2 HCU3
      have HT := Hi (HTA.out (by rw [HHK.out]; simp [e3]))
      clear HTA HFI
      go_wp2
      go_roundw
      case rel => exact ⟨j + 1, by omega, by go_num, HT.out, HO.out⟩
      case measure => simp [intOf]; omega
     | true =>
      have e4s : (cn.toList == nm.toList) = (nm.toList == cn.toList) := Bool.beq_comm
      cases e4 : (nm.toList == cn.toList) with
      | false =>
       rw [e4] at e4s
       have c1 := cell_regrown (show x60.cell? ⟨b, 3, none⟩ = some (.int .i64 ku) from HOK.out.cell 0 rfl 3 rfl)
       have c4 := cell_regrown (show x60.cell? ⟨bd, 0, none⟩ = some (.int .i64 id) from HOK.out.cell 12 rfl 0 rfl)
       have c5 := cell_regrown (show x60.cell? ⟨bd, 3, none⟩ = some (.string nm) from HOK.out.cell 12 rfl 3 rfl)
       have HID2 := Hi (show ∀ w', Below x60.heap.size x60 w' → _ from fun w' hb => HID.out w' (below_mid HBW.out hb))
       have HCU3 := Hi (show ∀ w', Below x60.heap.size x60 w' → _ from fun w' hb => HCU2.out w' (below_mid HBW.out hb))
       go_wp2
       refine wp_region_B (by kernel_rfl) (by kernel_rfl) ?_
       repeat (go_big_quiet_step (first | (go_at_call 70; exact Calls.regrown_of ((HPO.out _ (below_regrown _ _ _)).mono fun e w' h => ⟨h.1, h.2 ▸ Below.refl _ _⟩)) | (go_at_call 71; exact Calls.regrown_of ((HID2.out _ (below_regrown _ _ _)).mono fun e w' h => ⟨h.1, h.2 ▸ Below.refl _ _⟩)) | (go_at_call 72; exact Calls.regrown_of (HCU3.out _ (below_regrown _ _ _)))))
       refine wpQuiet_nil ?_
       intro x61 hbw2
       have hO := HO.out.stay hbw2
       have hOK := HOK.out.stay hbw2
       replace HO := Hi hO
       replace HOK := Hi hOK
       clear hO hOK hbw2 c1 c4 c5 HID2 HCU3
       have HT := Hi (HTA.out (by rw [HHK.out]; simp [e4]))
       clear HTA HFI
       go_wp2
       go_roundw
       case rel => exact ⟨j + 1, by omega, by go_num, HT.out, HO.out⟩
       case measure => simp [intOf]; omega
      | true =>
       rw [e4] at e4s
       have c1 := cell_regrown (show x60.cell? ⟨b, 3, none⟩ = some (.int .i64 ku) from HOK.out.cell 0 rfl 3 rfl)
       have c4 := cell_regrown (show x60.cell? ⟨bd, 0, none⟩ = some (.int .i64 id) from HOK.out.cell 12 rfl 0 rfl)
       have c5 := cell_regrown (show x60.cell? ⟨bd, 3, none⟩ = some (.string nm) from HOK.out.cell 12 rfl 3 rfl)
       have HID2 := Hi (show ∀ w', Below x60.heap.size x60 w' → _ from fun w' hb => HID.out w' (below_mid HBW.out hb))
       have HCU3 := Hi (show ∀ w', Below x60.heap.size x60 w' → _ from fun w' hb => HCU2.out w' (below_mid HBW.out hb))
       go_wp2
       refine wp_region_B (by kernel_rfl) (by kernel_rfl) ?_
       repeat (go_big_quiet_step (first | (go_at_call 70; exact Calls.regrown_of ((HPO.out _ (below_regrown _ _ _)).mono fun e w' h => ⟨h.1, h.2 ▸ Below.refl _ _⟩)) | (go_at_call 71; exact Calls.regrown_of ((HID2.out _ (below_regrown _ _ _)).mono fun e w' h => ⟨h.1, h.2 ▸ Below.refl _ _⟩)) | (go_at_call 72; exact Calls.regrown_of (HCU3.out _ (below_regrown _ _ _)))))
       refine wpQuiet_nil ?_
       intro x61 hbw2
       have hO := HO.out.stay hbw2
       have hOK := HOK.out.stay hbw2
       replace HO := Hi hO
       replace HOK := Hi hOK
       clear hO hOK hbw2 c1 c4 c5 HID2 HCU3
       have z10_0 : x61.cell? _ = some (.int .i64 id) := HO.out.cell 10 rfl 0 rfl
       have z10_1 : x61.cell? _ = some (.bool true) := HO.out.cell 10 rfl 1 rfl
       have z10_2 : x61.cell? _ = some (.int .i64 cd) := HO.out.cell 10 rfl 2 rfl
       have z10_3 : x61.cell? _ = some (.string nm) := HO.out.cell 10 rfl 3 rfl
       have z10_4 : x61.cell? _ = some (.int .i64 1) := HO.out.cell 10 rfl 4 rfl
       have z10_5 : x61.cell? _ = some (.slice ra n rc) := HO.out.cell 10 rfl 5 rfl
       have HF := Hi (HFI.out (by rw [HHK.out]; simp [e1, e2, e3, e4]))
       clear HFI HTA e1 e2 e3 e4 e4s HBW HOK HCU2 HID HPO
       obtain ⟨⟨z', q⟩, hzq⟩ : ∃ p, ansZ now z j b ⟨kt, kc, kr, ku, ks, kv⟩ cd rs = p := ⟨_, rfl⟩
       have HRZ := Hi (show rcvZ now z fr 53 tp ⟨id, true, cd, nm, 1, rs⟩ = (true, z', q) by
        unfold rcvZ
        rw [if_pos ⟨rfl, rfl, rfl⟩]
        simp only []
        rw [HF.out]
        simp only []
        rw [HJ.out]
        simp only []
        rw [hzq])
       have HZQ := Hi hzq
       clear hzq
       have HO2 := Hi (show Own w D x61 [resZ a z, glR g, rowRc (.slice ra n rc) rs] by
        have h1 := (shutZV (x := ⟨vsv, c, .slice (some ⟨gw, 0, none⟩) m wc, vd⟩) HAL.out (show Own w D x61 (partsZ a ⟨vsv, c, .slice (some ⟨gw, 0, none⟩) m wc, vd⟩ z avs ++ _) by unfold partsZ rowVw; rw [List.length_map, HM.out]; exact HO.out)).toEnd 5 [0, 1, 3] rfl rfl
        unfold rowRc
        rw [HN.out]
        exact h1)
       go_wp2_with fail
       refine (o_frameV [] [resZ a z, glR g, rowRc (.slice ra n rc) rs] (fun u => [resZ a z', glR g, rowRc (.slice ra n rc) rs, rowQs u q]) HO2.out (fun D' hD => HAN.out _ D' b j z' _ q _ hD HJ.out HZQ.out)).mono ?_
       rintro e x70 ⟨u, rfl, hO, -⟩
       have HOF := Hi (hO.toEnd 4 [0, 1, 3] rfl rfl)
       clear z10_0 z10_1 z10_2 z10_3 z10_4 z10_5
       clear hO HO2
       go_wp2
       go_ret2
       refine ⟨u, ?_, ?_, HOF.out.size⟩
       ·
        rw [HRZ.out]; rfl
       ·
        rw [HRZ.out]; exact HOF.out
  ·
   obtain rfl : j = m := by omega
   have hd : decide ((j : Int) < (j : Int)) = false := decide_eq_false (by omega)
   have HNA := Hi (find_idx_none (show ∀ p ∈ z.wl, hitK z.sd fr tp id nm p = false by have := HNO.out; rwa [← HM.out, List.take_length] at this))
   have HOF := Hi (((shutZV (x := ⟨vsv, c, .slice wa j wc, vd⟩) HAL.out (show Own w D wr (partsZ a ⟨vsv, c, .slice wa j wc, vd⟩ z avs ++ _) by unfold partsZ rowVw; rw [List.length_map, HM.out]; exact HO.out)).toEnd 5 [0, 1] rfl rfl).rowNew 37 3)
   clear HO
   go_wp2
   go_ret2
   have HRN := Hi (show rcvZ now z fr 53 tp ⟨id, true, cd, nm, 1, rs⟩ = (false, z, []) by unfold rcvZ; rw [if_pos ⟨rfl, rfl, rfl⟩]; simp only []; rw [HNA.out])
   refine ⟨.slice none 0 0, ?_, ?_, HOF.out.size⟩
   ·
    rw [HRN.out]; rfl
   ·
    rw [HRN.out]; exact HOF.out
theorem receive_z {a : Nat} {z : Rz} {g : Glo} {now fr fp tp : Int} {d : Dm} (h : Own w D w [resZ a z, glR g]) (hd : DmV d) (hs : s = ⟨(encM d).toArray⟩)
  (hz : ZI z) (hc : CInv now z.es) (hg : g.ok = true) (q1 : z.qn ≤ 100000) (hnu : ∀ p ∈ z.wl, 0 ≤ p.2.nu ∧ p.2.nu ≤ 1000000) :
  Calls Tryz.prog 24 #[.pointer (some ⟨a, 0, none⟩), .int .i64 now, .int .i64 fr, .agg #[.int .i64 fp, .int .i64 tp, .string s]] w (RcvP w D w a g (rcvZ now z fr fp tp d)) := by
 obtain ⟨id, an, cd, nm, kd, rs⟩ := d
 have hrs : ∀ r ∈ rs, r.kd = 1 ∨ vname r.to = true := fun r hr => by
  rcases (hd.rs r hr).al with h | h
  ·
   exact .inl h.1
  ·
   exact .inr h.2.1
 have hsz : ∀ r ∈ rs, r.nm.size ≤ maxLen ∧ r.to.size ≤ maxLen := fun r hr => by
  have h1 := hd.rs r hr
  have h2 := vname_sz h1.nm
  rcases h1.al with h | h
  ·
   have h3 := eq_nil_bytes h.2.2
   have h4 : r.to.size = 0 := by rw [h3]; rfl
   unfold maxLen; omega
  ·
   have h3 := vname_sz h.2.1
   unfold maxLen; omega
 have hl : rs.length ≤ 200 := by have h8 : rs.length ≤ 8 := hd.len; omega
 by_cases hfp : fp = 53
 ·
  subst hfp
  by_cases hno : an = false ∨ kd ≠ 1
  ·
   have e : rcvZ now z fr 53 tp ⟨id, an, cd, nm, kd, rs⟩ = (false, z, []) := by
    unfold rcvZ
    rw [if_neg (fun h => hno.elim (fun e => by rw [e] at h; cases h.2.1) fun e => e h.2.2)]
   rw [e]
   exact receive_msg h rfl hd hs hno
  ·
   obtain ⟨h1, h2⟩ : an = true ∧ kd = 1 := by
    constructor
    ·
     cases an with
     | true => rfl
     | false => exact absurd (.inl rfl) hno
    ·
     exact Classical.not_not.1 fun e => hno (.inr e)
   subst h1 h2
   exact receive_go h rfl hd hs hz hc hg q1 hl hrs hsz hnu
 ·
  have e : rcvZ now z fr fp tp ⟨id, an, cd, nm, kd, rs⟩ = (false, z, []) := by
   unfold rcvZ
   rw [if_neg (fun h => hfp h.1)]
  rw [e]
  exact receive_port h hfp
end Go.Proofs.YtbolfkojebbejaaGreatDoor
