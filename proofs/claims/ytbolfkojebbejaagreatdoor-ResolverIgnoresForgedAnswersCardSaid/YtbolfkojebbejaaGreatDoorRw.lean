/- label, Labels, ValidName of the reference of chapter 19; Valid of that of chapter 20. -/
import Derived.Test.YtbolfkojebbejaaGreatDoorBt
set_option linter.unusedVariables false
set_option maxRecDepth 100000
set_option maxHeartbeats 32000000
namespace Go.Proofs.YtbolfkojebbejaaGreatDoor
open Go.RowKit Go.Sort

variable {s : ByteArray}
theorem pcs_snoc : ∀ l : List UInt8, ∃ i x, pcs l = i ++ [x] ∧ pcs (l ++ [46]) = i ++ [x] ++ [[]] ∧ ∀ b, b ≠ 46 → pcs (l ++ [b]) = i ++ [x ++ [b]]
 | [] => ⟨[], [], rfl, rfl, fun b hb => by simp [pcs, hb]⟩
 | c :: r => by
  obtain ⟨i, x, h1, h2, h3⟩ := pcs_snoc r
  by_cases hc : c = 46
  ·
   refine ⟨[] :: i, x, by simp [pcs, hc, h1], by simp [pcs, hc, h2], fun b hb => by simp [pcs, hc, h3 b hb]⟩
  ·
   cases i with
   | nil =>
    refine ⟨[], c :: x, by simp [pcs, hc, h1], ?_, fun b hb => ?_⟩
    ·
     rw [List.cons_append]; simp only [pcs, hc, if_false]; rw [h2]; rfl
    ·
     rw [List.cons_append]; simp only [pcs, hc, if_false]; rw [h3 b hb]; rfl
   | cons p ps =>
    refine ⟨(c :: p) :: ps, x, by simp [pcs, hc, h1], ?_, fun b hb => ?_⟩
    ·
     rw [List.cons_append]; simp only [pcs, hc, if_false]; rw [h2]; rfl
    ·
     rw [List.cons_append]; simp only [pcs, hc, if_false]; rw [h3 b hb]; rfl
theorem pcs_len (l : List UInt8) : (pcs l).length ≤ l.length + 1 := by
 induction l with
 | nil => simp [pcs]
 | cons b r ih =>
  simp only [pcs]
  split
  ·
   simp; exact ih
  ·
   split
   ·
    simp
   ·
    rename_i h; rw [h] at ih; simp at ih ⊢; omega
theorem pcs_mem {l : List UInt8} : ∀ x ∈ pcs l, x.length ≤ l.length := by
 induction l with
 | nil => intro x hx; simp [pcs] at hx; simp [hx]
 | cons b r ih =>
  intro x hx
  simp only [pcs] at hx
  split at hx
  ·
   rcases List.mem_cons.1 hx with rfl | hx
   ·
    simp
   ·
    have := ih x hx; simp; omega
  ·
   split at hx
   ·
    simp at hx; simp [hx]
   ·
    rename_i p ps h
    rcases List.mem_cons.1 hx with rfl | hx
    ·
     have := ih p (by rw [h]; exact List.mem_cons_self ..); simp; omega
    ·
     have := ih x (by rw [h]; exact List.mem_cons_of_mem _ hx); simp; omega
def cStr (x : List UInt8) : Value := .string ⟨x.toArray⟩
abbrev rowS (v : Value) (l : List (List UInt8)) : Res := rowR v 9 1 l.length (l.map cStr)
theorem row_step {k : Nat} {l : List UInt8} (hk : k < l.length) : ∃ i x, pcs (l.take k) = i ++ [x] ∧ (l[k] = 46 → pcs (l.take (k + 1)) = i ++ [x] ++ [[]]) ∧ (l[k] ≠ 46 → pcs (l.take (k + 1)) = i ++ [x ++ [l[k]]]) := by
 obtain ⟨i, x, h1, h2, h3⟩ := pcs_snoc (l.take k)
 refine ⟨i, x, h1, fun h => ?_, fun h => ?_⟩
 ·
  rw [List.take_succ_eq_append_getElem hk, h, h2]
 ·
  rw [List.take_succ_eq_append_getElem hk, h3 _ h]
theorem inLb_i (b : UInt8) : inLb b = ((decide ((97 : Int) ≤ (b.toNat : Int)) && decide ((b.toNat : Int) ≤ 122)) || (decide ((48 : Int) ≤ (b.toNat : Int)) && decide ((b.toNat : Int) ≤ 57)) || decide ((b.toNat : Int) = 45)) := by
 unfold inLb
 congr 1
 ·
  congr 1
  ·
   congr 1 <;> (rw [decide_eq_decide]; omega)
  ·
   congr 1 <;> (rw [decide_eq_decide]; omega)
 ·
  rw [decide_eq_decide]; omega
theorem lbOk_all_no {p : ByteArray} {k : Nat} (hk : k < p.size) (h : inLb p[k] = false) : lbOk p.data.toList = false := by
 apply lbOk_no
 rw [List.all_eq_false]
 exact ⟨p[k], by
  have : p.data.toList[k]'(by rw [← Lib.size_eq]; exact hk) = p[k] := rfl
  rw [← this]; exact List.getElem_mem _, by rw [h]; decide⟩
theorem lbOk_all_yes {p : ByteArray} (hh : lbHead p.data.toList = true) (h : ∀ k (hk : k < p.size), inLb p[k] = true) : lbOk p.data.toList = true := by
 refine lbOk_yes hh ?_
 rw [List.all_eq_true]
 intro x hx
 obtain ⟨k, hk, rfl⟩ := List.getElem_of_mem hx
 exact h k (by rw [Lib.size_eq]; exact hk)
theorem label_any (p : ByteArray) (w : World) (hs : p.size ≤ 1000) : Calls Tryz.prog 101 #[.string p] w fun e w' => e = .returned (.bool (lbOk p.data.toList)) ∧ w = w' := by
 obtain ⟨e1, e2, e3⟩ := lbHead_eq p
 have NO : lbHead p.data.toList = false → lbOk p.data.toList = false := lbHead_no
 by_cases g1 : p.size < 1
 ·
  have HV := Hi (NO (e1 g1))
  have f1 : (p.size : Int) < 1 := by omega
  clear e1 e2 e3 NO
  go_enter Tryz.func101, Tryz.ntmps101
  go_wp2
  all_goals go_ret
  all_goals exact ⟨by rw [HV.out]; rfl, rfl⟩
 by_cases g2 : 20 < p.size
 ·
  have HV := Hi (NO (e2 g2))
  have f1 : ¬ (p.size : Int) < 1 := by omega
  have f2 : 20 < (p.size : Int) := by omega
  clear e1 e2 e3 NO
  go_enter Tryz.func101, Tryz.ntmps101
  go_wp2
  all_goals go_ret
  all_goals exact ⟨by rw [HV.out]; rfl, rfl⟩
 have hp : 0 < p.size := by omega
 obtain ⟨a1, a2, a3⟩ := e3 hp
 have f1 : ¬ (p.size : Int) < 1 := by omega
 have f2 : ¬ 20 < (p.size : Int) := by omega
 have hz : p.size - 1 < p.size := by omega
 by_cases g3 : p[0] = 45
 ·
  have HV := Hi (NO (a1 g3))
  have f3 : ((p[0].toNat : Int) == 45) = true := by rw [g3]; rfl
  clear e1 e2 e3 NO a1 a2 a3 g3
  go_enter Tryz.func101, Tryz.ntmps101
  go_wp2
  all_goals go_ret
  all_goals exact ⟨by rw [HV.out]; rfl, rfl⟩
 have f3 : ((p[0].toNat : Int) == 45) = false := u8_45.2.2 g3
 by_cases g4 : p[p.size - 1] = 45
 ·
  have HV := Hi (NO (a2 g4))
  have f4 : ((p[p.size - 1].toNat : Int) == 45) = true := by rw [g4]; rfl
  clear e1 e2 e3 NO a1 a2 a3 g4 g3
  go_enter Tryz.func101, Tryz.ntmps101
  go_wp2
  all_goals go_ret
  all_goals exact ⟨by rw [HV.out]; rfl, rfl⟩
 have f4 : ((p[p.size - 1].toNat : Int) == 45) = false := u8_45.2.2 g4
 have HH := Hi (a3 (by omega) g3 g4)
 clear e1 e2 e3 NO a1 a2 a3 g4 g3 g1 g2
 go_enter Tryz.func101, Tryz.ntmps101
 go_wp2
 go_loopw [3] (fun iv wr => ∃ k : Nat, k ≤ p.size ∧ iv = .int .i64 k ∧ (∀ j (hj : j < p.size), j < k → inLb p[j] = true) ∧ w = wr) (fun iv _ => p.size - (intOf iv).toNat)
 case atStart => exact ⟨0, Nat.zero_le _, rfl, fun _ _ h => by omega, rfl⟩
 case round =>
  obtain ⟨k, hk, rfl, hall, rfl⟩ := hrel
  have HA := Hi hall
  clear hall
  by_cases hlt : k < p.size
  ·
   have hb := p[k].toNat_lt
   have HN := Hi (fun h : inLb p[k] = false => lbOk_all_no hlt h)
   have HS := Hi (fun h : inLb p[k] = true => (show ∀ j (hj : j < p.size), j < k + 1 → inLb p[j] = true from fun j hj hjk => by
    by_cases e : j = k
    ·
     subst e; exact h
    ·
     exact HA.out j hj (by omega)))
   have HI := Hi (inLb_i p[k])
   by_cases m1 : (97 : Int) ≤ (p[k].toNat : Int)
   ·
    have m2 : (48 : Int) ≤ (p[k].toNat : Int) := by omega
    have m2b : ¬ (p[k].toNat : Int) ≤ 57 := by omega
    have m3 : ((p[k].toNat : Int) == 45) = false := by simp; omega
    have m3b : ((p[k].toNat : Int) != 45) = true := by simp; omega
    by_cases m1b : (p[k].toNat : Int) ≤ 122
    ·
     have hv : inLb p[k] = true := by rw [HI.out]; simp; omega
     have HV := Hi (HS.out hv)
     clear hv HN HS HI HA
     go_wp2
     go_roundw
     case rel => exact ⟨k + 1, by omega, by go_num, HV.out, by trivial⟩
     case measure => simp [intOf]; omega
    ·
     have hv : inLb p[k] = false := by rw [HI.out]; simp; omega
     have HV := Hi (HN.out hv)
     clear hv HN HS HI HA
     go_wp2
     go_ret
     exact ⟨by rw [HV.out]; rfl, rfl⟩
   ·
    by_cases m2 : (48 : Int) ≤ (p[k].toNat : Int)
    ·
     have m3 : ((p[k].toNat : Int) == 45) = false := by simp; omega
     have m3b : ((p[k].toNat : Int) != 45) = true := by simp; omega
     by_cases m2b : (p[k].toNat : Int) ≤ 57
     ·
      have hv : inLb p[k] = true := by rw [HI.out]; simp; omega
      have HV := Hi (HS.out hv)
      clear hv HN HS HI HA
      go_wp2
      go_roundw
      case rel => exact ⟨k + 1, by omega, by go_num, HV.out, by trivial⟩
      case measure => simp [intOf]; omega
     ·
      have hv : inLb p[k] = false := by rw [HI.out]; simp; omega
      have HV := Hi (HN.out hv)
      clear hv HN HS HI HA
      go_wp2
      go_ret
      exact ⟨by rw [HV.out]; rfl, rfl⟩
    ·
     by_cases m4 : (p[k].toNat : Int) = 45
     ·
      have m3 : ((p[k].toNat : Int) == 45) = true := by simp [m4]
      have m3b : ((p[k].toNat : Int) != 45) = false := by simp [m4]
      have hv : inLb p[k] = true := by rw [HI.out]; simp; omega
      have HV := Hi (HS.out hv)
      clear hv HN HS HI HA
      go_wp2
      go_roundw
      case rel => exact ⟨k + 1, by omega, by go_num, HV.out, by trivial⟩
      case measure => simp [intOf]; omega
     ·
      have m3 : ((p[k].toNat : Int) == 45) = false := by simpa using m4
      have m3b : ((p[k].toNat : Int) != 45) = true := by simpa using m4
      have hv : inLb p[k] = false := by rw [HI.out]; simp; omega
      have HV := Hi (HN.out hv)
      clear hv HN HS HI HA
      go_wp2
      go_ret
      exact ⟨by rw [HV.out]; rfl, rfl⟩
  ·
   obtain rfl : k = p.size := by omega
   have HV := Hi (lbOk_all_yes HH.out (fun j hj => HA.out j hj hj))
   go_wp2
   go_ret
   exact ⟨by rw [HV.out]; rfl, rfl⟩
theorem run_bsS (w : World) : (Instr.buildSlice 99 1 #[(0, .string ⟨#[]⟩)]).run Tryz.prog w = .ok (.slice (some ⟨w.heap.size, 0, none⟩) 1 1) (w.alloc (.cells #[.string ⟨#[]⟩] 9)) := by kernel_rfl
theorem infoS : (Tryz.prog.info? 9).map (fun i => (i.zero, i.size, i.bytes)) = some (some (.string ⟨#[]⟩), 1, 16) := by kernel_rfl
theorem Own.allocRow {w0 w : World} {D : Nat → Prop} {L : List Res} (h : Own w0 D w L) (cs : Array Value) (t : TypeId) (n sz : Nat) (hc : cs.size = n * sz) (hm : n ≤ maxLen) : Own w0 D (w.alloc (.cells cs t)) (L ++ [rowR (.slice (some ⟨w.heap.size, 0, none⟩) n n) t sz n cs.toList]) :=
 h.push (R := rowR (.slice (some ⟨w.heap.size, 0, none⟩) n n) t sz n cs.toList) (F := fun b => b = w.heap.size)
  ⟨fun b => ⟨fun e => by rw [e]; rfl, fun e => by simpa [Value.ownBlock] using e.symm⟩, by simpa using hc, .inr ⟨w.heap.size, n, cs, rfl, Nat.zero_le _, by show (w.heap.push (.cells cs t))[w.heap.size]? = _; simp, Nat.le_refl _, hm, hc, by rw [← hc]; exact List.take_length⟩⟩ (fun b hb => by rw [hb]; exact Nat.le_refl _) (below_one w _)
def LabPost (l : List (List UInt8)) (w : World) (e : Ending) (w' : World) : Prop := ∃ v, e = .returned v ∧ Own w none0 w' [rowS v l] ∧ w.heap.size ≤ w'.heap.size
theorem ext_one {k : Nat} (hk : k < s.size) : s.extract k (k + 1) = ⟨[s[k]].toArray⟩ := by
 apply ByteArray.ext
 rw [ByteArray.data_extract]
 apply Array.ext
 ·
  have : k < s.data.size := hk
  simp; omega
 ·
  intro i hi hj
  simp at hj
  subst hj
  simp; rfl
theorem cat_one (x : List UInt8) {k : Nat} (hk : k < s.size) (hx : x.length ≤ 1000) (w : World) : (binOp .add 9 (.string ⟨x.toArray⟩) (.string (s.extract k (k + 1)))).run Tryz.prog w = .ok (.string ⟨(x ++ [s[k]]).toArray⟩) w := by
 rw [ext_one hk, binOp_string_add]
 have h2 := run_string_add (P := Tryz.prog) w ⟨x.toArray⟩ ⟨[s[k]].toArray⟩ (by show ((x.toArray.size : Nat) : Int) ≤ _; simp; omega) (by show (([s[k]].toArray.size : Nat) : Int) ≤ _; simp)
 rw [h2]
 congr 3
section
attribute [local go_sem ↓] run_bsS
theorem labels19_any (s : ByteArray) (w : World) (hs : s.size ≤ 1000) : Calls Tryz.prog 100 #[.string s] w (LabPost (pcs s.data.toList) w) := by
 obtain ⟨x1, hx1⟩ : ∃ y, w.alloc (.cells #[.string ⟨#[]⟩] 9) = y := ⟨_, rfl⟩
 obtain ⟨b0, hb0⟩ : ∃ y, w.heap.size = y := ⟨_, rfl⟩
 have hO := (Own.nil w none0).allocRow #[.string ⟨#[]⟩] 9 1 1 rfl (by decide)
 rw [hx1, hb0] at hO
 have HO := Hi (show Own w none0 x1 [rowS (.slice (some ⟨b0, 0, none⟩) 1 1) (pcs (s.data.toList.take 0))] from hO)
 clear hO
 have hsz : s.data.toList.length = s.size := (Lib.size_eq s).symm
 go_enter Tryz.func100, Tryz.ntmps100
 go_wp2
 go_loopw [3, 4] (fun ov iv wr => ∃ (k n cap : Nat) (a : Option Addr), k ≤ s.size ∧ iv = .int .i64 k ∧ n = (pcs (s.data.toList.take k)).length ∧ ov = .slice a n cap ∧ Own w none0 wr [rowR (.slice a n cap) 9 1 n ((pcs (s.data.toList.take k)).map cStr)]) (fun _ iv _ => s.size - (intOf iv).toNat)
 case atStart => exact ⟨0, 1, 1, _, Nat.zero_le _, rfl, rfl, rfl, HO.out⟩
 case round =>
  obtain ⟨k, n, cap, a, hk, rfl, hn, rfl, hO⟩ := hrel
  replace HO := Hi hO
  clear hO hx1 hb0
  by_cases hlt : k < s.size
  ·
   obtain ⟨i, x, hp, hp1, hp2⟩ := row_step (l := s.data.toList) (k := k) (by omega)
   have hge : s.data.toList[k]'(by omega) = s[k] := rfl
   rw [hge] at hp1 hp2
   have hil : i.length ≤ k := by
    have := pcs_len (s.data.toList.take k)
    rw [hp] at this
    simp at this
    omega
   rw [hp] at HO hn
   have hni : n = i.length + 1 := by rw [hn]; simp
   have HNI := Hi hni
   by_cases hd : s[k] = 46
   ·
    have e1 : ((s[k].toNat : Int) == 46) = true := by rw [hd]; rfl
    have HN := Hi (hp1 hd)
    clear hp1 hp2 hd hp hge hn hni
    obtain ⟨x2, hx2, b2, hb2, hO⟩ := HO.out.allocE (.cells #[.string ⟨#[]⟩] 9)
    replace HO := Hi (show Own w none0 x2 [rowR (.slice a n cap) 9 1 n ((i ++ [x]).map cStr), blkR b2 (.cells #[.string ⟨#[]⟩] 9)] from hO)
    clear hO
    go_wp2_with ((at_builtin; refine (show _ = True → _ from fun h => of_eq_true h) ?_))
    refine eq_true ?_
    refine wpList_appO rfl (.tmp 16) (.tmp 17) 99 rfl Tryz.underlying99 infoS rfl (by decide) HO.out 0 rfl rfl 1 1 1 [.string ⟨#[]⟩] rfl rfl rfl (by intro u hu; simp at hu; subst hu; rfl) (by have := HNI.out; unfold maxLen; omega) (by have := HNI.out; omega) ?_
    intro v' w' hO
    clear hx2 hb2
    simp only [l_Z] at hO
    have hO := hO.take 1
    have ha : (i ++ [x]).map cStr ++ [.string ⟨#[]⟩] = (i ++ [x] ++ [[]]).map cStr := by simp [cStr]
    rw [ha] at hO
    obtain ⟨a3, cap3, rfl⟩ := row_shape (Own.row hO 0 rfl)
    replace HO := Hi (show Own _ _ _ [rowR (.slice a3 (n + 1) cap3) 9 1 (n + 1) ((i ++ [x] ++ ([[]] : List (List UInt8))).map cStr)] from hO)
    clear hO ha
    go_wp2
    go_roundw
    case rel => exact ⟨k + 1, n + 1, cap3, a3, by omega, by go_num, by rw [HN.out]; have := HNI.out; simp; omega, by simp, by rw [HN.out]; exact HO.out⟩
    case measure => simp [intOf]; omega
   ·
    have e1 : ((s[k].toNat : Int) == 46) = false := by
     simp only [beq_eq_false_iff_ne]
     intro e
     exact hd (UInt8.toNat_inj.1 (by show s[k].toNat = 46; omega))
    have HN := Hi (hp2 hd)
    have hp0 : x.length ≤ k := by
     have := pcs_mem (l := s.data.toList.take k) x (by rw [hp]; simp)
     simp at this
     omega
    clear hp1 hp2 hd hp hge hn
    have hrw := HO.out.row 0 rfl
    obtain ⟨g, rfl⟩ := row_some hrw (by omega)
    have c0 : wr.cell? ⟨g, i.length, none⟩ = some (.string ⟨x.toArray⟩) := (row_cells hrw).1 _ _ (by simp [cStr])
    have f0 : wr.frozen? ⟨g, i.length, none⟩ = false := (row_cells hrw).2 _
    have g0 := cell_regrown c0
    clear hrw
    obtain ⟨j, hj⟩ : ∃ j, i.length = j := ⟨_, rfl⟩
    have HJ := Hi hj
    rw [hj] at c0 f0 g0 hni hil
    clear hj
    subst hni
    have hw1 : IntKind.i64.wrap ((((j + 1 : Nat) : Int)) - 1) = (j : Int) := by rw [show ((((j + 1 : Nat) : Int)) - 1) = (j : Int) by omega]; exact IntWalk.i64_in _ (by omega)
    have hw2 : IntKind.i64.wrap ((k : Int) + 1) = ((k + 1 : Nat) : Int) := by rw [show ((k : Int) + 1) = ((k + 1 : Nat) : Int) by omega]; exact IntWalk.i64_in _ (by omega)
    have HCAT := Hi (cat_one x hlt (by have := hp0; omega))
    have c1 : (0 : Int) ≤ ↑k := by omega
    have c2 : (↑k : Int) ≤ ↑k + 1 := by omega
    have c4 : (↑k + 1 : Int) ≤ ↑s.size := by omega
    go_wp2
    refine wp_region_R 17 (by kernel_rfl) (by kernel_rfl) ?_
    simp only [List.take, List.drop]
    iterate 15 (first | (refine wpR_want (by kernel_rfl) rfl rfl ?_; intro K hK; go_big_quiet_op; go_big_quiet_on) | (refine wpR_is (by kernel_rfl) rfl _ (fun w _ => rfl) ?_; simp only [Act.put, l_T, l_S, l_Z]))
    refine wpR_is (by kernel_rfl) rfl (.string ⟨(x ++ [s[k]]).toArray⟩) (fun w _ => run_v_ok (HCAT.out w)) ?_
    simp only [Act.put, l_T, l_S, l_Z]
    repeat (first | (refine wpR_want (by kernel_rfl) rfl rfl ?_; intro K hK; go_big_quiet_op; go_big_quiet_on) | (refine wpR_is (by kernel_rfl) rfl _ (fun w _ => rfl) ?_; simp only [Act.put, l_T, l_S, l_Z]))
    refine wpR_nil (by kernel_rfl) (by simp) ?_
    rintro x5 hb5
    simp only [exAll, List.drop]
    clear g0 c0 f0 c2 HCAT
    have hO := HO.out.stay hb5
    replace HO := Hi hO
    clear hO hb5
    have hrw := HO.out.row 0 rfl
    have c0 : x5.cell? ⟨g, j, none⟩ = some (.string ⟨x.toArray⟩) := (row_cells hrw).1 _ _ (by rw [← HJ.out]; simp [cStr])
    have f0 : x5.frozen? ⟨g, j, none⟩ = false := (row_cells hrw).2 _
    clear hrw
    obtain ⟨x6, hx6⟩ : ∃ y, x5.setCell ⟨g, j, none⟩ (.string ⟨(x ++ [s[k]]).toArray⟩) = y := ⟨_, rfl⟩
    have hO := Own.rowSet HO.out 0 rfl j (.string ⟨(x ++ [s[k]]).toArray⟩)
    rw [hx6] at hO
    have ha : ((i ++ [x]).map cStr).set j (.string ⟨(x ++ [s[k]]).toArray⟩) = (i ++ [x ++ [s[k]]]).map cStr := by rw [← HJ.out]; simp [cStr]
    simp only [l_Z, ha] at hO
    replace HO := Hi hO
    clear hO ha
    go_wp2
    go_roundw
    case rel => exact ⟨k + 1, j + 1, cap, _, by omega, by go_num, by rw [HN.out]; simp; exact HJ.out.symm, rfl, by rw [HN.out]; exact HO.out⟩
    case measure => simp [intOf]; omega
  ·
   obtain rfl : k = s.size := by omega
   rw [show s.data.toList.take s.size = s.data.toList by rw [← hsz]; exact List.take_length] at HO hn
   subst hn
   go_wp2
   go_ret
   exact ⟨_, rfl, HO.out, HO.out.size⟩
end
theorem adr3_any (a : Int) (w : World) : Calls Tryz.prog 120 #[.int .i64 a] w fun e w' => e = .returned (.bool (adrOk a)) ∧ w = w' := by
 unfold adrOk
 go_enter Tryz.func120, Tryz.ntmps120
 go_wp2
 all_goals (go_ret; refine ⟨ret_bool ?_, rfl⟩; first | (rw [Bool.eq_iff_iff]; done) | (rw [Bool.eq_iff_iff]; simp; done) | (rw [Bool.eq_iff_iff]; simp; omega))
theorem adr3_r {a : Int} {b : Bool} (h : adrOk a = b) (w : World) : Calls Tryz.prog 120 #[.int .i64 a] w fun e w' => e = .returned (.bool b) ∧ w = w' := h ▸ adr3_any a w
theorem vname_all (h : ¬ 60 < s.size) : vname s = (pcs s.data.toList).all lbOk := by
 unfold vname
 rw [decide_eq_true (by omega : s.size ≤ 60), Bool.true_and]
theorem vname_long (h : 60 < s.size) : vname s = false := by
 unfold vname
 rw [decide_eq_false (by omega : ¬ s.size ≤ 60), Bool.false_and]
theorem label_l {x : List UInt8} {b : Bool} (h : lbOk x = b) (w : World) (hs : x.length ≤ 60) : Calls Tryz.prog 101 #[.string ⟨x.toArray⟩] w fun e w' => e = .returned (.bool b) ∧ w = w' := by
 subst h
 have h := label_any ⟨x.toArray⟩ w (by rw [mk_size]; omega)
 rwa [mk_toList] at h
theorem vn19_any (s : ByteArray) (w : World) : Calls Tryz.prog 47 #[.string s] w fun e w' => e = .returned (.bool (vname s)) ∧ Below w.heap.size w w' := by
 by_cases h60 : 60 < s.size
 ·
  have HV := Hi (vname_long h60)
  have f1 : 60 < (s.size : Int) := by omega
  clear h60
  go_enter Tryz.func47, Tryz.ntmps47
  go_wp2
  go_ret
  exact ⟨by rw [HV.out]; rfl, Below.refl _ _⟩
 have HV := Hi (vname_all h60)
 have f1 : ¬ 60 < (s.size : Int) := by omega
 have HL := Hi (labels19_any s w (by omega))
 have hl : (pcs s.data.toList).length ≤ 61 := by have := pcs_len s.data.toList; rw [← Lib.size_eq] at this; omega
 have HM := Hi (show ∀ x ∈ pcs s.data.toList, x.length ≤ 60 from fun x hx => by have := pcs_mem x hx; rw [← Lib.size_eq] at this; omega)
 generalize pcs s.data.toList = l at *
 obtain ⟨ml, hml⟩ : ∃ y, l.length = y := ⟨_, rfl⟩
 have HML := Hi hml
 rw [hml] at hl
 clear hml h60
 go_enter Tryz.func47, Tryz.ntmps47
 go_wp2_with fail
 refine HL.out.mono ?_
 rintro e x1 ⟨v, rfl, hO, -⟩
 have hO : Own w none0 x1 [rowR v 9 1 l.length (l.map cStr)] := hO
 rw [HML.out] at hO
 obtain ⟨a, cap, rfl⟩ := row_shape (Own.row hO 0 rfl)
 have HO := Hi hO
 clear hO
 go_wp2
 go_loopw [4] (fun iv wr => ∃ k : Nat, k ≤ ml ∧ iv = .int .i64 k ∧ (l.take k).all lbOk = true ∧ Own w none0 wr [rowR (.slice a ml cap) 9 1 ml (l.map cStr)]) (fun iv _ => ml - (intOf iv).toNat)
 case atStart => exact ⟨0, Nat.zero_le _, rfl, rfl, HO.out⟩
 case round =>
  obtain ⟨k, hk, rfl, hall, hO⟩ := hrel
  replace HO := Hi hO
  clear hO
  by_cases hlt : k < ml
  ·
   have hkl : k < l.length := by have := HML.out; omega
   have hrw := HO.out.row 0 rfl
   obtain ⟨g, rfl⟩ := row_some hrw (by omega)
   have c0 : wr.cell? ⟨g, k, none⟩ = some (.string ⟨l[k].toArray⟩) := (row_cells hrw).1 _ _ (by rw [List.getElem?_map, List.getElem?_eq_getElem hkl]; rfl)
   clear hrw
   have hm := HM.out l[k] (List.getElem_mem hkl)
   have HS := Hi (all_take_step hkl hall)
   have HP := Hi (fun h => all_prefix_no (p := lbOk) (l := l.take (k + 1)) (m := l) (List.take_prefix _ _) h)
   clear hall
   generalize l[k] = y at *
   cases hb : lbOk y with
   | true =>
    have HB := Hi hb
    have HN := Hi (HS.out.trans hb)
    clear hb HS HP
    go_wp2_with fail
    refine (label_l HB.out _ hm).mono ?_
    rintro e xp ⟨rfl, rfl⟩
    go_wp2
    go_roundw
    case rel => exact ⟨k + 1, by omega, by go_num, HN.out, HO.out⟩
    case measure => simp [intOf]; omega
   | false =>
    have HB := Hi hb
    have HN := Hi (HP.out (HS.out.trans hb))
    clear hb HS HP
    go_wp2_with fail
    refine (label_l HB.out _ hm).mono ?_
    rintro e xp ⟨rfl, rfl⟩
    go_wp2
    go_ret
    exact ⟨by rw [HV.out, HN.out]; rfl, HO.out.below⟩
  ·
   obtain rfl : k = ml := by omega
   have HN := Hi (show l.all lbOk = true by rw [← hall, ← HML.out, List.take_length])
   clear hall
   go_wp2
   go_ret
   exact ⟨by rw [HV.out, HN.out]; rfl, HO.out.below⟩
theorem vn19_r {b : Bool} (h : vname s = b) (w : World) : Calls Tryz.prog 47 #[.string s] w fun e w' => e = .returned (.bool b) ∧ Below w.heap.size w w' := h ▸ vn19_any s w
end Go.Proofs.YtbolfkojebbejaaGreatDoor
