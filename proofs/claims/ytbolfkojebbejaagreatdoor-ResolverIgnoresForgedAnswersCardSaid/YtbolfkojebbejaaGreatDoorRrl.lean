/- The resolver's relevant. Printed by wip/tools/gen21m.py. -/
import Derived.Test.YtbolfkojebbejaaGreatDoorBv
set_option linter.unusedVariables false
set_option maxRecDepth 100000
set_option maxHeartbeats 32000000
namespace Go.Proofs.YtbolfkojebbejaaGreatDoor
open Go.RowKit Go.Sort
variable {w : World} {v : Value} {rs : List Rc}
attribute [local go_sem] Oper.semAt_some

def relT (ns : List ByteArray) (r : Rc) : Bool := hasS r.nm ns && (r.kd == 2) && !hasS r.to ns
def relN (rs : List Rc) : Nat → List ByteArray → List ByteArray
 | 0, ns => ns
 | f + 1, ns => match rs.find? (relT ns) with
  | none => ns
  | some r => relN rs f (ns ++ [r.to])
def relF (rs : List Rc) (nm : ByteArray) : List Rc := rs.filter fun r => hasS r.nm (relN rs rs.length [nm])
def relC (rs : List Rc) (ns : List ByteArray) : Nat := (rs.filter fun r => !hasS r.to ns).length
theorem hasS_snoc {x y : ByteArray} {l : List ByteArray} : hasS x (l ++ [y]) = (hasS x l || (y.toList == x.toList)) := by simp [hasS]
theorem filter_lt {α : Type} {p q : α → Bool} : ∀ {l : List α}, (∀ x ∈ l, q x = true → p x = true) → (∃ x ∈ l, p x = true ∧ q x = false) → (l.filter q).length < (l.filter p).length
 | [], _, ⟨x, h, _⟩ => by cases h
 | a :: l, h1, h2 => by
  have hle : (l.filter q).length ≤ (l.filter p).length := by
   clear h2
   have h1' := fun x hx => h1 x (List.mem_cons_of_mem _ hx)
   clear h1
   induction l with
   | nil => simp
   | cons b l ih =>
    have hb := h1' b List.mem_cons_self
    have := ih fun x hx => h1' x (List.mem_cons_of_mem _ hx)
    rw [List.filter_cons, List.filter_cons]
    cases hq : q b <;> cases hp : p b <;> simp_all <;> omega
  rw [List.filter_cons, List.filter_cons]
  obtain ⟨x, hx, hxp, hxq⟩ := h2
  rcases List.mem_cons.1 hx with rfl | hx
  ·
   rw [hxp, hxq]; simp; omega
  ·
   have := filter_lt (fun y hy => h1 y (List.mem_cons_of_mem _ hy)) ⟨x, hx, hxp, hxq⟩
   have ha := h1 a List.mem_cons_self
   cases hq : q a <;> cases hp : p a <;> simp_all <;> omega
theorem relC_lt {ns : List ByteArray} {r : Rc} (hr : r ∈ rs) (ht : relT ns r = true) : relC rs (ns ++ [r.to]) < relC rs ns := by
 unfold relT at ht
 simp only [Bool.and_eq_true, Bool.not_eq_true'] at ht
 refine filter_lt (fun x _ h => ?_) ⟨r, hr, by simp [ht.2], by simp [hasS_snoc]⟩
 rw [hasS_snoc] at h
 simp at h ⊢
 exact h.1
theorem relN_end {ns : List ByteArray} (f : Nat) (h : rs.find? (relT ns) = none) : relN rs f ns = ns := by
 cases f with
 | zero => rfl
 | succ f => unfold relN; rw [h]
theorem relN_step {ns : List ByteArray} {r : Rc} {f : Nat} (h : rs.find? (relT ns) = some r) (hf : relC rs ns ≤ f) : ∃ f', f = f' + 1 ∧ relN rs f ns = relN rs f' (ns ++ [r.to]) ∧ relC rs (ns ++ [r.to]) ≤ f' := by
 have h1 := List.mem_of_find?_eq_some h
 have h2 := List.find?_some h
 have h3 := relC_lt h1 h2
 obtain ⟨f', rfl⟩ : ∃ f', f = f' + 1 := ⟨f - 1, by omega⟩
 refine ⟨f', rfl, ?_, by omega⟩
 conv => lhs; unfold relN
 rw [h]
theorem find_at {α : Type} {p : α → Bool} {l : List α} {k : Nat} (hk : k < l.length) (h : (l.take k).find? p = none) : (p l[k] = true → l.find? p = some l[k]) ∧ (p l[k] = false → (l.take (k + 1)).find? p = none) := by
 have e : l = l.take k ++ l[k] :: l.drop (k + 1) := by rw [List.getElem_cons_drop, List.take_append_drop]
 constructor
 ·
  intro hp
  conv => lhs; rw [e]
  rw [List.find?_append, h, List.find?_cons, hp]; rfl
 ·
  intro hp
  rw [List.take_succ_eq_append_getElem hk, List.find?_append, h, List.find?_cons, hp]; rfl
def slLen (w : World) (b : Nat) : Nat := match w.cell? ⟨b, 0, none⟩ with
 | some (.slice _ n _) => n
 | _ => 0
theorem slLen_is {b : Nat} {a : Option Addr} {n c : Nat} (h : w.cell? ⟨b, 0, none⟩ = some (.slice a n c)) : slLen w b = n := by unfold slLen; rw [h]
theorem run_bsS1 (x : ByteArray) (w : World) : (Instr.buildSlice 99 1 #[(0, .string x)]).run Tryz.prog w = .ok (.slice (some ⟨w.heap.size, 0, none⟩) 1 1) (w.alloc (.cells #[.string x] 9)) := by kernel_rfl
theorem infoSt : (Tryz.prog.info? 9).map (fun i => (i.zero, i.size, i.bytes)) = some (some (.string ⟨#[]⟩), 1, 16) := by kernel_rfl
theorem kept_r {nm : ByteArray} {kd tt ad : Int} {to : ByteArray} {b : Nat} {n : Nat} {ns : List ByteArray} {r : Bool} (w : World) (hc : w.cell? ⟨b, 0, none⟩ = some v) (hrow : w.ownsRow 0 9 1 v n (ns.map cSt)) (h0 : 0 < n) (hn : n ≤ 1000) (hr : hasS nm ns = r) :
  Calls Tryz.prog 171 #[.agg #[.string nm, .int .i64 kd, .int .i64 tt, .int .i64 ad, .string to], .pointer (some ⟨b, 0, none⟩)] w fun e w' => e = .returned (.bool r) ∧ Below w.heap.size w w' := by
 have HO := Hi (show Own w none0 w [] from Own.nil w none0)
 have HC := Hi hc
 have HR := Hi hrow
 obtain ⟨x1, hx1, bx, hbx, hO⟩ := HO.out.allocE (.cells #[.string nm, .int .i64 kd, .int .i64 tt, .int .i64 ad, .string to] 49)
 replace HO := Hi (show Own _ _ _ [blkR bx (.cells #[.string nm, .int .i64 kd, .int .i64 tt, .int .i64 ad, .string to] 49)] from hO)
 clear hO
 obtain ⟨z0_0, z0_1, z0_2, z0_3, z0_4⟩ := HO.out.c5 0 rfl
 have k0 : x1.cell? ⟨b, 0, none⟩ = some v := keep HO.out.below HC.out
 have HCT := Hi (containsS_r (x := nm) x1 ((Upd.of_below (F := fun _ => False) HO.out.below).row HR.out (fun _ _ h => h)) h0 hn hr)
 have HBL := Hi (HO.out.below)
 clear hc hrow
 go_enter Tryz.func171, Tryz.ntmps171
 go_wp2_with fail
 refine HCT.out.mono ?_
 rintro e x2 ⟨rfl, rfl⟩
 go_wp2
 go_ret
 exact ⟨rfl, HBL.out⟩
theorem relevant_o {D : Nat → Prop} (s : ByteArray) (h : Own w D w [rowRc v rs]) (hl : rs.length ≤ 900) :
  Calls Tryz.prog 125 #[v, .string s] w (VPost w D w fun u => [rowRc v rs, rowRc u (relF rs s)]) := by
 have HO := Hi h
 have hr := h.row 0 rfl
 obtain ⟨ra, rc, rfl⟩ := row_shape hr
 obtain ⟨n, hn⟩ : ∃ n, rs.length = n := ⟨_, rfl⟩
 have HN := Hi hn
 rw [hn] at HO hl ⊢
 clear hr hn h
 have rb := run_bsRc
 have rb1 := run_bsS1
 have hmf : ∀ (fn : Fn) (first cap : Array Value) (w : World), (Instr.makeFunc fn first cap).run Tryz.prog w = .ok (.func fn first cap) w := fun _ _ _ _ => rfl
 obtain ⟨x1, hx1, bs, hbs, hO⟩ := HO.out.allocE (.cells #[.string s] 9)
 replace HO := Hi (show Own w D x1 [rowRc (.slice ra n rc) rs, blkR bs (.cells #[.string s] 9)] from hO)
 clear hO
 have hQ := HO.out.toRowQ 1 1 1 rfl rfl (by decide)
 replace HO := Hi (show Own w D x1 [_, rowR (.slice (some ⟨bs, 0, none⟩) 1 1) 9 1 1 [cSt s]] from hQ)
 clear hQ
 obtain ⟨x2, hx2, bn, hbn, hO⟩ := HO.out.allocE (.cells #[.slice none 0 0] 99)
 replace HO := Hi (show Own _ _ _ [_, _, blkR bn (.cells #[.slice none 0 0] 99)] from hO)
 clear hO
 have y2_0 := HO.out.frz 2 rfl 0
 have z2_0 : x2.cell? _ = some (.slice none 0 0) := HO.out.cell 2 rfl 0 rfl
 obtain ⟨x3, hx3, hO⟩ := HO.out.setE 2 rfl 0 (.slice (some ⟨bs, 0, none⟩) 1 1)
 replace HO := Hi (show Own _ _ _ [_, _, blkR bn (.cells #[.slice (some ⟨bs, 0, none⟩) 1 1] 99)] from hO)
 clear hO
 have z2_0t : x3.cell? _ = some (.slice (some ⟨bs, 0, none⟩) 1 1) := HO.out.cell 2 rfl 0 rfl
 go_enter Tryz.func125, Tryz.ntmps125
 go_wp2_with fail
 go_step3
 go_wp2
 go_step3
 go_wp2
 clear hx1 hbs hx2 hbn y2_0 z2_0 hx3 z2_0t
 clear rb1
 go_loopw [] (fun wr => ∃ (ns : List ByteArray) (sv : Value) (f m : Nat), relN rs f ns = relN rs rs.length [s] ∧ relC rs ns ≤ f ∧ ns.length = m ∧ (0 < m ∧ m + f ≤ 901) ∧ Own w D wr [rowRc (.slice ra n rc) rs, rowR sv 9 1 m (ns.map cSt), blkR bn (.cells #[sv] 99)]) (fun wr => 2000 - slLen wr bn)
 case atStart => exact ⟨[s], _, rs.length, 1, rfl, List.length_filter_le _ _, rfl, ⟨by decide, by rw [HN.out]; omega⟩, HO.out⟩
 case round =>
  obtain ⟨ns, sv, f, m, hre, hcn, hm, ⟨h0, hmf⟩, hO⟩ := hrel
  clear HO
  obtain ⟨ga, gc, rfl⟩ := row_shape (hO.row 1 rfl)
  have HO := Hi hO
  have HRE := Hi (And.intro hre hcn)
  have HM := Hi hm
  have hm9 : m ≤ 901 := by omega
  clear hre hcn hm hO
  have HSL := Hi (slLen_is (HO.out.cell 2 rfl 0 rfl))
  go_wp2
  go_loopw [17] (fun iv wq => ∃ k : Nat, k ≤ n ∧ iv = .int .i64 k ∧ (rs.take k).find? (relT ns) = none ∧ Own w D wq [rowRc (.slice ra n rc) rs, rowR (.slice ga m gc) 9 1 m (ns.map cSt), blkR bn (.cells #[.slice ga m gc] 99)]) (fun iv _ => n - (intOf iv).toNat)
  case atStart => exact ⟨0, Nat.zero_le _, rfl, rfl, HO.out⟩
  case round =>
   obtain ⟨k, hk, rfl, hfi, hO⟩ := hrel
   have HF := Hi hfi
   clear HO hfi
   have HO := Hi hO
   clear hO
   have hb1 : (n : Int) ≤ 1000 := by omega
   by_cases hlt : k < n
   ·
    have hkl : k < rs.length := by rw [HN.out]; exact hlt
    have hrw := HO.out.row 0 rfl
    rw [HN.out] at hrw
    obtain ⟨g, rfl⟩ := row_some hrw (by omega)
    have yc : ∀ q u, q < 5 → (cRc rs[k])[q]? = some u → wr.cell? ⟨g, k * 5 + q, none⟩ = some u := fun q u hq hu => (row_cells hrw).1 _ _ (by rw [flat_getR cRc 5 (fun _ => rfl) rs k hkl q hq]; exact hu)
    have HFS := Hi (find_at (p := relT ns) hkl HF.out)
    generalize rs[k] = r at *
    obtain ⟨nm, kd, tt, ad, to⟩ := r
    have y0 : wr.cell? ⟨g, k * 5, none⟩ = some (.string nm) := yc 0 _ (by decide) rfl
    have y1 : wr.cell? ⟨g, k * 5 + 1, none⟩ = some (.int .i64 kd) := yc 1 _ (by decide) rfl
    have y2 : wr.cell? ⟨g, k * 5 + 2, none⟩ = some (.int .i64 tt) := yc 2 _ (by decide) rfl
    have y3 : wr.cell? ⟨g, k * 5 + 3, none⟩ = some (.int .i64 ad) := yc 3 _ (by decide) rfl
    have y4 : wr.cell? ⟨g, k * 5 + 4, none⟩ = some (.string to) := yc 4 _ (by decide) rfl
    clear yc hrw hkl
    replace HO := Hi (show Own w D wr [rowRc (.slice (some ⟨g, 0, none⟩) n rc) rs, rowR (.slice ga m gc) 9 1 m (ns.map cSt), blkR bn (.cells #[.slice ga m gc] 99)] from HO.out)
    obtain ⟨x21, hx21, bx, hbx, hO⟩ := HO.out.allocE (.cells #[.string ⟨#[]⟩, .int .i64 0, .int .i64 0, .int .i64 0, .string ⟨#[]⟩] 49)
    replace HO := Hi (show Own _ _ _ [_, _, _, blkR bx (.cells #[.string ⟨#[]⟩, .int .i64 0, .int .i64 0, .int .i64 0, .string ⟨#[]⟩] 49)] from hO)
    clear hO
    obtain ⟨x27, x32, x36, x39, x41, hx27, hx32, hx36, hx39, hx41, k3_0_22, lk3_0_22, k3_1_28, lk3_1_28, k3_2_33, lk3_2_33, k3_3_37, lk3_3_37, k3_4_40, lk3_4_40, hO⟩ := HO.out.steps5 3 rfl (.string nm) (.int .i64 kd) (.int .i64 tt) (.int .i64 ad) (.string to)
    replace HO := Hi (show Own _ _ _ [_, _, _, blkR bx (.cells #[.string nm, .int .i64 kd, .int .i64 tt, .int .i64 ad, .string to] 49)] from hO)
    clear hO
    obtain ⟨z3_0, z3_1, z3_2, z3_3, z3_4⟩ := HO.out.c5 3 rfl
    cases hk1 : hasS nm ns with
    | false =>
     go_wp2_with fail
     refine (o_still HO.out (kept_r (ns := ns) _ (HO.out.cell 2 rfl 0 rfl) (HO.out.row 1 rfl) h0 (by omega) hk1)).mono ?_
     rintro e x42 ⟨rfl, hO, -⟩
     replace HO := Hi hO
     clear hO
     clear hx21 hbx k3_0_22 lk3_0_22 hx27 k3_1_28 lk3_1_28 hx32 k3_2_33 lk3_2_33 hx36 k3_3_37 lk3_3_37 hx39 k3_4_40 lk3_4_40 hx41 z3_0 z3_1 z3_2 z3_3 z3_4
     have HF2 := Hi (HFS.out.2 (by simp [relT, hk1]))
     clear HFS
     go_wp2
     go_roundw
     case rel => exact ⟨k + 1, by omega, by go_num, HF2.out, HO.out.take 3⟩
     case measure => simp [intOf]; omega
    | true =>
     go_wp2_with fail
     refine (o_still HO.out (kept_r (ns := ns) _ (HO.out.cell 2 rfl 0 rfl) (HO.out.row 1 rfl) h0 (by omega) hk1)).mono ?_
     rintro e x42 ⟨rfl, hO, -⟩
     replace HO := Hi hO
     clear hO
     clear hx21 hbx k3_0_22 lk3_0_22 hx27 k3_1_28 lk3_1_28 hx32 k3_2_33 lk3_2_33 hx36 k3_3_37 lk3_3_37 hx39 k3_4_40 lk3_4_40 hx41 z3_0 z3_1 z3_2 z3_3 z3_4
     obtain ⟨z3_0, z3_1, z3_2, z3_3, z3_4⟩ := HO.out.c5 3 rfl
     have z2_0 : x42.cell? _ = some (.slice ga m gc) := HO.out.cell 2 rfl 0 rfl
     by_cases hk2 : kd = 2
     ·
      subst hk2
      cases hk3 : hasS to ns with
      | false =>
       go_wp2_with fail
       refine (containsS_r (ch := ns) _ (HO.out.row 1 rfl) h0 (by omega) hk3).mono ?_
       rintro e xp ⟨rfl, rfl⟩
       have HFD := Hi (HFS.out.1 (by simp [relT, hk1, hk3]))
       clear HFS HF hk1 hk3
       have rb1 := run_bsS1 to
       obtain ⟨x43, hx43, bz, hbz, hO⟩ := HO.out.allocE (.cells #[.string to] 9)
       replace HO := Hi (show Own _ _ _ [_, _, _, blkR bx (.cells #[.string nm, .int .i64 2, .int .i64 tt, .int .i64 ad, .string to] 49), blkR bz (.cells #[.string to] 9)] from hO)
       clear hO
       obtain ⟨z3_0t, z3_1t, z3_2t, z3_3t, z3_4t⟩ := HO.out.c5 3 rfl
       have ⟨z2_0t, y2_0⟩ : x43.cell? _ = some (.slice ga m gc) ∧ _ := HO.out.cf 2 rfl 0 rfl
       go_wp2_with ((at_builtin; refine (show _ = True → _ from fun h => of_eq_true h) ?_))
       refine eq_true ?_
       refine wpList_appO rfl (.tmp 36) (.tmp 39) 99 rfl Tryz.underlying99 infoSt rfl (by decide) HO.out 1 rfl rfl 4 1 1 [.string to] rfl rfl rfl (fun u hu => by simp at hu; subst hu; rfl) (by unfold maxLen; omega) (by omega) ?_
       intro v9 x9 hO
       clear z3_0 z3_1 z3_2 z3_3 z3_4 z2_0 hx43 hbz z3_0t z3_1t z3_2t z3_3t z3_4t z2_0t y2_0
       have e1 : rowR v9 9 1 (m + 1) (ns.map cSt ++ [.string to]) = rowR v9 9 1 (m + 1) ((ns ++ [to]).map cSt) := by simp
       simp only [l_S, l_Z, e1] at hO
       clear rb1 e1
       replace HO := Hi (show Own w D x9 [_, rowR v9 9 1 (m + 1) ((ns ++ [to]).map cSt), _] from Own.take hO 3)
       clear hO
       obtain ⟨na, nc, rfl⟩ := row_shape (HO.out.row 1 rfl)
       have y2_0 := HO.out.frz 2 rfl 0
       have z2_0 : x9.cell? _ = some (.slice ga m gc) := HO.out.cell 2 rfl 0 rfl
       obtain ⟨x44, hx44, hO⟩ := HO.out.setE 2 rfl 0 (.slice na (m + 1) nc)
       replace HO := Hi (show Own _ _ _ [_, rowR (.slice na (m + 1) nc) 9 1 (m + 1) ((ns ++ [to]).map cSt), blkR bn (.cells #[.slice na (m + 1) nc] 99)] from hO)
       clear hO
       have HSL2 := Hi (slLen_is (HO.out.cell 2 rfl 0 rfl))
       obtain ⟨f', hf1, hf2, hf3⟩ := relN_step HFD.out HRE.out.2
       have HRS := Hi (And.intro hf1 (And.intro hf2 hf3))
       clear hf1 hf2 hf3
       go_wp2
       go_roundw
       case rel => exact ⟨ns ++ [to], _, f', m + 1, by rw [HRS.out.2.1.symm]; exact HRE.out.1, HRS.out.2.2, by rw [List.length_append, HM.out]; rfl, ⟨by omega, by have := HRS.out.1; omega⟩, HO.out⟩
       case measure => rw [HSL.out, HSL2.out]; omega
      | true =>
       go_wp2_with fail
       refine (containsS_r (ch := ns) _ (HO.out.row 1 rfl) h0 (by omega) hk3).mono ?_
       rintro e xp ⟨rfl, rfl⟩
       have HF2 := Hi (HFS.out.2 (by simp [relT, hk3]))
       clear HFS
       go_wp2
       go_roundw
       case rel => exact ⟨k + 1, by omega, by go_num, HF2.out, HO.out.take 3⟩
       case measure => simp [intOf]; omega
     ·
      have hd2 : decide (kd = 2) = false := decide_eq_false hk2
      have HF2 := Hi (HFS.out.2 (by simp [relT, hk2]))
      clear HFS
      go_wp2
      go_roundw
      case rel => exact ⟨k + 1, by omega, by go_num, HF2.out, HO.out.take 3⟩
      case measure => simp [intOf]; omega
   ·
    obtain rfl : k = n := by omega
    have hd : decide ((k : Int) < (k : Int)) = false := decide_eq_false (by omega)
    have HE := Hi (show relN rs rs.length [s] = ns by
     rw [← HRE.out.1]; exact relN_end f (by have := HF.out; rwa [← HN.out, List.take_length] at this))
    clear HF HRE
    go_wp2
    go_loopw [9, 44] (fun u iv wr => ∃ j : Nat, j ≤ k ∧ iv = .int .i64 j ∧ Own w D wr [rowRc (.slice ra k rc) rs, rowR (.slice ga m gc) 9 1 m (ns.map cSt), blkR bn (.cells #[.slice ga m gc] 99), rowRc u ((rs.take j).filter fun r => hasS r.nm ns)]) (fun _ iv _ => k - (intOf iv).toNat)
    case atStart => exact ⟨0, Nat.zero_le _, rfl, HO.out.rowNew _ _⟩
    case round =>
     obtain ⟨j, hj, rfl, hO⟩ := hrel
     clear HO hd
     have HO := Hi hO
     obtain ⟨ua, uc, rfl⟩ := row_shape (hO.row 3 rfl)
     clear hO
     by_cases hlt : j < k
     ·
      have hkl : j < rs.length := by rw [HN.out]; exact hlt
      have hrw := HO.out.row 0 rfl
      rw [HN.out] at hrw
      obtain ⟨g, rfl⟩ := row_some hrw (by omega)
      have yc : ∀ q u, q < 5 → (cRc rs[j])[q]? = some u → wr.cell? ⟨g, j * 5 + q, none⟩ = some u := fun q u hq hu => (row_cells hrw).1 _ _ (by rw [flat_getR cRc 5 (fun _ => rfl) rs j hkl q hq]; exact hu)
      have HFS := Hi (filter_step (p := fun r : Rc => hasS r.nm ns) hkl)
      have HKN := Hi (show ((rs.take j).filter fun r => hasS r.nm ns).length ≤ j from len_filter_take _ rs j)
      obtain ⟨q, hq⟩ : ∃ q, ((rs.take j).filter fun r => hasS r.nm ns).length = q := ⟨_, rfl⟩
      have HM := Hi hq
      rw [hq] at HO HKN ⊢
      clear hq
      generalize rs[j] = r at *
      obtain ⟨nm, kd, tt, ad, to⟩ := r
      have y0 : wr.cell? ⟨g, j * 5, none⟩ = some (.string nm) := yc 0 _ (by decide) rfl
      have y1 : wr.cell? ⟨g, j * 5 + 1, none⟩ = some (.int .i64 kd) := yc 1 _ (by decide) rfl
      have y2 : wr.cell? ⟨g, j * 5 + 2, none⟩ = some (.int .i64 tt) := yc 2 _ (by decide) rfl
      have y3 : wr.cell? ⟨g, j * 5 + 3, none⟩ = some (.int .i64 ad) := yc 3 _ (by decide) rfl
      have y4 : wr.cell? ⟨g, j * 5 + 4, none⟩ = some (.string to) := yc 4 _ (by decide) rfl
      clear yc hrw hkl
      have hd : decide ((j : Int) < (k : Int)) = true := decide_eq_true (by omega)
      replace HO := Hi (show Own w D wr [rowRc (.slice (some ⟨g, 0, none⟩) k rc) rs, rowR (.slice ga m gc) 9 1 m (ns.map cSt), blkR bn (.cells #[.slice ga m gc] 99), rowR (.slice ua q uc) 49 5 q (((rs.take j).filter fun r => hasS r.nm ns).flatMap cRc)] from by rw [← HM.out]; have := HO.out; rw [← HM.out] at this; exact this)
      obtain ⟨x61, hx61, bx, hbx, hO⟩ := HO.out.allocE (.cells #[.string ⟨#[]⟩, .int .i64 0, .int .i64 0, .int .i64 0, .string ⟨#[]⟩] 49)
      replace HO := Hi (show Own _ _ _ [_, _, _, _, blkR bx (.cells #[.string ⟨#[]⟩, .int .i64 0, .int .i64 0, .int .i64 0, .string ⟨#[]⟩] 49)] from hO)
      clear hO
      obtain ⟨x67, x72, x76, x79, x81, hx67, hx72, hx76, hx79, hx81, k4_0_62, lk4_0_62, k4_1_68, lk4_1_68, k4_2_73, lk4_2_73, k4_3_77, lk4_3_77, k4_4_80, lk4_4_80, hO⟩ := HO.out.steps5 4 rfl (.string nm) (.int .i64 kd) (.int .i64 tt) (.int .i64 ad) (.string to)
      replace HO := Hi (show Own _ _ _ [_, _, _, _, blkR bx (.cells #[.string nm, .int .i64 kd, .int .i64 tt, .int .i64 ad, .string to] 49)] from hO)
      clear hO
      obtain ⟨z4_0, z4_1, z4_2, z4_3, z4_4⟩ := HO.out.c5 4 rfl
      cases hk1 : hasS nm ns with
      | false =>
       go_wp2_with fail
       refine (o_still HO.out (kept_r (ns := ns) _ (HO.out.cell 2 rfl 0 rfl) (HO.out.row 1 rfl) h0 (by omega) hk1)).mono ?_
       rintro e x82 ⟨rfl, hO, -⟩
       replace HO := Hi hO
       clear hO
       clear hx61 hbx k4_0_62 lk4_0_62 hx67 k4_1_68 lk4_1_68 hx72 k4_2_73 lk4_2_73 hx76 k4_3_77 lk4_3_77 hx79 k4_4_80 lk4_4_80 hx81 z4_0 z4_1 z4_2 z4_3 z4_4
       have HRT := Hi (show ((rs.take (j + 1)).filter fun r => hasS r.nm ns) = ((rs.take j).filter fun r => hasS r.nm ns) by
        rw [HFS.out]; simp [hk1])
       clear HFS
       go_wp2
       go_roundw
       case rel => exact ⟨j + 1, by omega, by go_num, by rw [HRT.out, ← HM.out]; have := HO.out.take 4; rw [← HM.out] at this; exact this⟩
       case measure => simp [intOf]; omega
      | true =>
       go_wp2_with fail
       refine (o_still HO.out (kept_r (ns := ns) _ (HO.out.cell 2 rfl 0 rfl) (HO.out.row 1 rfl) h0 (by omega) hk1)).mono ?_
       rintro e x82 ⟨rfl, hO, -⟩
       replace HO := Hi hO
       clear hO
       clear hx61 hbx k4_0_62 lk4_0_62 hx67 k4_1_68 lk4_1_68 hx72 k4_2_73 lk4_2_73 hx76 k4_3_77 lk4_3_77 hx79 k4_4_80 lk4_4_80 hx81 z4_0 z4_1 z4_2 z4_3 z4_4
       have HRT := Hi (show ((rs.take (j + 1)).filter fun r => hasS r.nm ns) = ((rs.take j).filter fun r => hasS r.nm ns) ++ [⟨nm, kd, tt, ad, to⟩] by
        rw [HFS.out]; simp [hk1])
       clear HFS
       obtain ⟨z4_0, z4_1, z4_2, z4_3, z4_4⟩ := HO.out.c5 4 rfl
       obtain ⟨x83, hx83, bo, hbo, hO⟩ := HO.out.allocE (.cells #[.string nm, .int .i64 kd, .int .i64 tt, .int .i64 ad, .string to] 49)
       replace HO := Hi (show Own _ _ _ [_, _, _, _, _, blkR bo (.cells #[.string nm, .int .i64 kd, .int .i64 tt, .int .i64 ad, .string to] 49)] from hO)
       clear hO
       go_wp2_with ((at_builtin; refine (show _ = True → _ from fun h => of_eq_true h) ?_))
       refine eq_true ?_
       refine wpList_appO rfl (.tmp 51) (.tmp 53) 50 rfl Tryz.underlying50 infoRc rfl (by decide) HO.out 3 rfl rfl 5 1 1 [.string nm, .int .i64 kd, .int .i64 tt, .int .i64 ad, .string to] rfl rfl rfl (oneRc _ _ _ _ _) (by have := HKN.out; unfold maxLen; omega) (by have := HKN.out; omega) ?_
       intro v9 x9 hO
       clear z4_0 z4_1 z4_2 z4_3 z4_4 hx83 hbo
       have e1 : rowR v9 49 5 (q + 1) (((rs.take j).filter fun r => hasS r.nm ns).flatMap cRc ++ [.string nm, .int .i64 kd, .int .i64 tt, .int .i64 ad, .string to]) = rowRc v9 ((rs.take (j + 1)).filter fun r => hasS r.nm ns) := by
        rw [HRT.out]
        show _ = rowR _ _ _ _ _
        rw [List.length_append, List.flatMap_append, HM.out]; rfl
       simp only [l_S, l_Z, e1] at hO
       replace HO := Hi (show Own w D x9 [_, _, _, rowRc v9 ((rs.take (j + 1)).filter fun r => hasS r.nm ns)] from Own.take hO 4)
       clear hO e1
       go_wp2
       go_roundw
       case rel => exact ⟨j + 1, by omega, by go_num, HO.out⟩
       case measure => simp [intOf]; omega
     ·
      obtain rfl : j = k := by omega
      have hd : decide ((j : Int) < (j : Int)) = false := decide_eq_false (by omega)
      have HT := Hi (show rs.take j = rs by rw [← HN.out]; exact List.take_length)
      rw [HT.out] at HO ⊢
      go_wp2
      rw [Exit.noGoto_ret]
      go_ret
      refine ⟨_, rfl, ?_, HO.out.size⟩
      have hO := HO.out.toEnd 4 [1, 2] rfl rfl
      show Own w D wr [rowRc _ rs, rowRc _ (rs.filter fun r => hasS r.nm (relN rs rs.length [s]))]
      rw [HE.out]
      exact HO.out.toEnd 4 [0, 3] rfl rfl
end Go.Proofs.YtbolfkojebbejaaGreatDoor
