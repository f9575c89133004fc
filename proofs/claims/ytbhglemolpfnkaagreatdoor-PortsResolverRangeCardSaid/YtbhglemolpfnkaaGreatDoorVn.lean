/- Contract of ValidName. -/
import Derived.Test.YtbhglemolpfnkaaGreatDoorLab
set_option linter.unusedVariables false
set_option maxRecDepth 100000
set_option maxHeartbeats 32000000
namespace Go.Proofs.YtbhglemolpfnkaaGreatDoor
open Go.RowKit Go.Sort
attribute [local go_sem] Oper.semAt_some

def inLb (b : UInt8) : Bool := (decide (97 ≤ b.toNat) && decide (b.toNat ≤ 122)) || (decide (48 ≤ b.toNat) && decide (b.toNat ≤ 57)) || decide (b.toNat = 45)
def lbHead (x : List UInt8) : Bool := decide (1 ≤ x.length) && decide (x.length ≤ 20) && (x.head? != some 45) && (x.getLast? != some 45)
def lbOk (x : List UInt8) : Bool := lbHead x && x.all inLb
def vname (s : ByteArray) : Bool := decide (s.size ≤ 60) && (pcs s.data.toList).all lbOk
theorem inLabel_any (b : UInt8) (w : World) : Calls Tryz.prog 80 #[.int .u8 (b.toNat : Int)] w fun e w' => e = .returned (.bool (inLb b)) ∧ w = w' := by
 have hI : inLb b = ((decide ((97 : Int) ≤ (b.toNat : Int)) && decide ((b.toNat : Int) ≤ 122)) || (decide ((48 : Int) ≤ (b.toNat : Int)) && decide ((b.toNat : Int) ≤ 57)) || decide ((b.toNat : Int) = 45)) := by
  unfold inLb
  congr 1
  ·
   congr 1
   ·
    congr 1 <;> (rw [decide_eq_decide]; omega)
   ·
    congr 1 <;> (rw [decide_eq_decide]; omega)
  ·
   rw [decide_eq_decide]; omega
 rw [hI]
 have hb := b.toNat_lt
 generalize b.toNat = c at *
 clear hI
 go_enter Tryz.func80, Tryz.ntmps80
 go_wp2
 all_goals
  go_ret
  refine ⟨ret_bool ?_, rfl⟩
  first
   | (rw [Bool.eq_iff_iff]; done)
   | (rw [Bool.eq_iff_iff]; simp; done)
   | (rw [Bool.eq_iff_iff]; simp; omega)
theorem lbHead_no {x : List UInt8} (h : lbHead x = false) : lbOk x = false := by simp [lbOk, h]
theorem lbOk_yes {x : List UInt8} (h : lbHead x = true) (h2 : x.all inLb = true) : lbOk x = true := by simp [lbOk, h, h2]
theorem lbOk_no {x : List UInt8} (h : x.all inLb = false) : lbOk x = false := by simp [lbOk, h]
theorem u8_45i {b : UInt8} : ((b.toNat : Int) = 45 ↔ b = 45) := by
 constructor
 ·
  intro h
  apply UInt8.toNat_inj.1
  show b.toNat = 45
  omega
 ·
  intro h; rw [h]; rfl
theorem u8_45 {b : UInt8} : ((b.toNat : Int) = 45 ↔ b = 45) ∧ (((b.toNat : Int) == 45) = false ↔ b ≠ 45) := ⟨u8_45i, by have := not_congr (@u8_45i b); simpa using this⟩
theorem all_snoc_of {α : Type} {p : α → Bool} {l : List α} {x : α} (h : l.all p = true) : (l ++ [x]).all p = p x := by rw [List.all_append, h]; simp
theorem all_prefix_no {α : Type} {p : α → Bool} {l m : List α} (h : l <+: m) (hl : l.all p = false) : m.all p = false := by
 obtain ⟨r, rfl⟩ := h
 rw [List.all_append, hl]; rfl
theorem all_take_step {α : Type} {p : α → Bool} {l : List α} {k : Nat} (hk : k < l.length) (h : (l.take k).all p = true) : (l.take (k + 1)).all p = p l[k] := by
 rw [List.take_succ_eq_append_getElem hk, List.all_append, h]; simp
theorem lbHead_eq (p : ByteArray) : (p.size < 1 → lbHead p.data.toList = false) ∧ (20 < p.size → lbHead p.data.toList = false) ∧ ∀ h : 0 < p.size, (p[0]'h = 45 → lbHead p.data.toList = false) ∧ (p[p.size - 1]'(by omega) = 45 → lbHead p.data.toList = false) ∧ (p.size ≤ 20 → p[0]'h ≠ 45 → p[p.size - 1]'(by omega) ≠ 45 → lbHead p.data.toList = true) := by
 have hl : p.data.toList.length = p.size := (Lib.size_eq p).symm
 have e0 : ∀ h : 0 < p.size, p.data.toList.head? = some (p[0]'h) := fun h => by
  rw [List.head?_eq_getElem?, List.getElem?_eq_getElem (by omega)]; rfl
 have e1 : ∀ h : 0 < p.size, p.data.toList.getLast? = some (p[p.size - 1]'(by omega)) := fun h => by
  rw [List.getLast?_eq_getElem?, List.getElem?_eq_getElem (by omega)]
  simp only [hl]
  rfl
 refine ⟨fun h => ?_, fun h => ?_, fun h => ⟨fun h1 => ?_, fun h1 => ?_, fun h1 h2 h3 => ?_⟩⟩ <;> unfold lbHead <;> rw [hl]
 ·
  simp; omega
 ·
  simp; omega
 ·
  rw [e0 h, h1]; simp
 ·
  rw [e1 h, h1]; simp
 ·
  rw [e0 h, e1 h]; simp [h2, h3]; omega
def vnI (v : Nat) (pre : List (List UInt8)) (L : List Res) : Prop := pre.all lbOk = true ∧ L = [blkR v (.cells #[.bool true] 4)]
def vnX (v : Nat) (c : Code) (pre : List (List UInt8)) (L : List Res) : Prop := c = .exit 0 ∧ pre.all lbOk = false ∧ L = [blkR v (.cells #[.bool false] 4)]
theorem vnI_still {B v : Nat} : ∀ pre L, vnI v pre L → stills B L := fun pre L h => by rw [h.2]; exact stills_cons (still_blk _ rfl) stills_nil
theorem vnX_still {B v : Nat} : ∀ c pre L, vnX v c pre L → stills B L := fun c pre L h => by rw [h.2.2]; exact stills_cons (still_blk _ rfl) stills_nil
theorem vname_any (s : ByteArray) (w : World) (hs : s.size ≤ maxLen) : Calls Tryz.prog 37 #[.string s] w fun e w' => e = .returned (.bool (vname s)) ∧ Below w.heap.size w w' := by
 refine (callsIn_wide (n := 5)).1 ?_
 obtain ⟨n, hn⟩ : ∃ n : Nat, n = 5 := ⟨_, rfl⟩
 rw [← hn]
 have h1 : 1 ≤ n := by omega
 have HNN := Hi hn
 have HS := Hi hs
 clear hn
 by_cases h60 : s.size ≤ 60
 ·
  have hV := Hi (show vname s = (pcs s.data.toList).all lbOk by unfold vname; simp [h60])
  unfold maxLen at hs
  have HO := Hi (show Own w none0 w [] from Own.nil w none0)
  refine callsIn_of_wp_marks Tryz.func37 rfl trivial ?_ rfl
  simp only [Tryz.ntmps37, List.size_toArray, List.length_cons, List.length_nil, Nat.reduceAdd, Nat.reduceSub, Array.replicate_succ, Array.replicate_zero, List.push_toArray, List.append_toArray, List.nil_append, List.cons_append]
  gi_wp2
  refine wpIn_scope_wide ?_
  obtain ⟨v, hv⟩ : ∃ y, w.heap.size = y := ⟨_, rfl⟩
  obtain ⟨x1, hx1⟩ : ∃ y, w.alloc (.cells #[.bool false] 4) = y := ⟨_, rfl⟩
  have hO := HO.out.alloc (.cells #[.bool false] 4)
  rw [hx1, hv] at hO
  replace HO := Hi (show Own _ _ _ [blkR v (.cells #[.bool false] 4)] from hO)
  clear hO
  have ⟨c1, f1⟩ : x1.cell? _ = some (.bool false) ∧ _ := HO.out.cf 0 rfl 0 rfl
  obtain ⟨x2, hx2, hO⟩ := HO.out.setE 0 rfl 0 (.bool true)
  replace HO := Hi (show Own _ _ _ [blkR v (.cells #[.bool true] 4)] from hO)
  clear hO
  gi_wp2
  refine wpIn_label ?_
  gi_wp2_with (refine ⟨trivial, ?_⟩; gi_at_call 79; refine (callsIn_wide.2 (labels_any s _)).mono ?_; rintro e x3 ⟨rfl, rfl⟩)
  clear c1 f1
  obtain ⟨x3, hx3⟩ : ∃ y, x2.alloc (.cells #[.string s] 9) = y := ⟨_, rfl⟩
  rw [hx3]
  obtain ⟨b, hb⟩ : ∃ y, x2.heap.size = y := ⟨_, rfl⟩
  have hO := HO.out.alloc (.cells #[.string s] 9)
  rw [hx3, hb] at hO
  replace HO := Hi (show Own _ _ _ [_, blkR b (.cells #[.string s] 9)] from hO)
  rw [hb]
  clear hO hx1 hv hx2 hx3 hb
  obtain ⟨DA, DB, s1, s2, s3, s4, s5, s6⟩ := Own.split (A := [blkR b (.cells #[.string s] 9)]) (B := [blkR v (.cells #[.bool true] 4)]) HO.out.swap'
  refine wpIn_rangeO (encs := encL) (D := DB) h1 (gf := 112) (lb := #[.pointer (some ⟨b, 0, none⟩)]) rfl (enters_of Tryz.func112 (by kernel_rfl) rfl)
   (labels_stops (n - 1) (by have := HNN.out; omega) (pcs s.data.toList).length b s HS.out (Nat.le_refl _) _ x3 (s1.cell 0 rfl 0 rfl)) (fun _ => rfl)
   (vnI v) (vnX v) vnI_still vnX_still s2 ⟨rfl, rfl⟩
   (fun x a' Lx => Lx = [] ∧ a' = { tmps := #[.string s, undef, .bool false, .pointer (some ⟨v, 0, none⟩), .string ⟨x.toArray⟩, undef, undef, .string s, .int .i64 s.size, .bool (decide (60 < (s.size : Int))), .string s, .func (.func 112) #[] #[.pointer (some ⟨b, 0, none⟩)], .string ⟨x.toArray⟩, undef, undef, undef, undef, undef, undef, undef, undef, undef, undef, undef, undef, undef, undef, undef, undef, undef, undef, undef, undef, undef, undef, undef, undef, undef, undef, undef, undef, undef, undef, undef], defers := [] })
   ?assign ?body ?done ?stop
  case assign =>
   intro l pre x W D' L K hi ho hK
   gi_wp2
   exact hK _ _ [] ⟨rfl, rfl⟩ (by simpa using ho)
  case body =>
   rintro l pre x a' W D' L Lx ⟨hi, rfl⟩ ⟨rfl, rfl⟩ hlt hup ho
   have HO := Hi (show Own W D' W [_] from ho)
   clear ho
   have HI := Hi hi
   obtain ⟨p, hp⟩ : ∃ p : ByteArray, ⟨x.toArray⟩ = p := ⟨_, rfl⟩
   have hx : x = p.data.toList := by rw [← hp]
   have ⟨c1, f1⟩ : W.cell? _ = some (.bool true) ∧ _ := HO.out.cf 0 rfl 0 rfl
   rw [hp]
   have HX := Hi hx
   clear hp hx hi
   obtain ⟨e1, e2, e3⟩ := lbHead_eq p
   have HE1 := Hi e1
   have HE2 := Hi e2
   have HE3 := Hi e3
   clear e1 e2 e3
   have EX : lbHead p.data.toList = false → ∃ L, vnX v (.exit 0) (pre ++ [x]) L ∧ Own W D' (W.setCell ⟨v, 0, none⟩ (.bool false)) L := fun h => ⟨_, ⟨rfl, by rw [all_snoc_of HI.out, HX.out]; exact lbHead_no h, rfl⟩, HO.out.setCell 0 rfl 0 _⟩
   have HEX := Hi EX
   clear EX
   gi_wp2
   ·
    have h0 : (p[0].toNat : Int) = 45 := by assumption
    have hp : 0 < p.size := by assumption
    exact HEX.out ((HE3.out hp).1 (u8_45.1.1 h0))
   ·
    have hp : 0 < p.size := by assumption
    have h0 : ¬ (p[0].toNat : Int) = 45 := by assumption
    have hl : (((p.size : Int) < 1 ∨ 20 < (p.size : Int)) ∨ ((p[0].toNat : Int) == 45) = true) ∨ ((p[p.size - 1].toNat : Int) == 45) = true := by assumption
    rcases hl with ((h | h) | h) | h
    ·
     exact HEX.out (HE1.out (by omega))
    ·
     exact HEX.out (HE2.out (by omega))
    ·
     exact absurd (by simpa using h) h0
    ·
     exact HEX.out ((HE3.out hp).2.1 (u8_45.1.1 (by simpa using h)))
   ·
    have hp : 0 < p.size := by assumption
    have h20 : (p.size : Int) ≤ 20 := by assumption
    have hl : ((1 ≤ (p.size : Int) ∧ (p.size : Int) ≤ 20) ∧ ((p[0].toNat : Int) == 45) = false) ∧ ((p[p.size - 1].toNat : Int) == 45) = false := by assumption
    have HH := Hi ((HE3.out hp).2.2 (by omega) (u8_45.2.1 hl.1.2) (u8_45.2.1 hl.2))
    clear hl
    rename_i g1 g2 g3 g4 g5 g6
    clear g4 g6 c1 f1
    gi_loopw [34] (fun iv wr => ∃ k : Nat, k ≤ p.size ∧ iv = .int .i64 k ∧ (p.data.toList.take k).all inLb = true ∧ Own W D' wr [blkR v (.cells #[.bool true] 4)]) (fun iv _ => p.size - (intOf iv).toNat)
    case atStart => exact ⟨0, Nat.zero_le _, rfl, rfl, HO.out⟩
    case round =>
     obtain ⟨k, hk, rfl, hall, hO⟩ := hrel
     have HA := Hi hall
     replace HO := Hi hO
     clear hall hO
     by_cases hlt : k < p.size
     ·
      have HT := Hi (all_take_step (p := inLb) (l := p.data.toList) (k := k) (by rw [← Lib.size_eq]; exact hlt) HA.out)
      have hg : p.data.toList[k]'(by rw [← Lib.size_eq]; exact hlt) = p[k] := rfl
      rw [hg] at HT
      clear hg
      have C := Hi (inLabel_any p[k])
      have hd : 1 ≤ n - 1 - 1 := by have := HNN.out; omega
      have ⟨c1, f1⟩ : wr.cell? _ = some (.bool true) ∧ _ := HO.out.cf 0 rfl 0 rfl
      cases hi : inLb p[k]
      all_goals
       rw [hi] at C HT
       clear hi
       gi_wp2_with (refine ⟨trivial, ?_⟩; gi_at_call 80; refine (CallsIn.inRound l (callsIn_wide.2 (C.out _))).mono ?_; rintro e w1 ⟨rfl, rfl⟩)
      ·
       exact ⟨_, ⟨rfl, by rw [all_snoc_of HI.out, HX.out]; exact lbOk_no (all_prefix_no (List.take_prefix _ _) HT.out), rfl⟩, HO.out.setCell 0 rfl 0 _⟩
      ·
       go_roundw
       case rel => exact ⟨k + 1, by omega, by go_num, HT.out, HO.out⟩
       case measure => simp [intOf]; omega
     ·
      obtain rfl : k = p.size := by omega
      gi_wp2
      exact ⟨_, ⟨by rw [all_snoc_of HI.out, HX.out]; exact lbOk_yes HH.out (by have := HA.out; rwa [Lib.size_eq, List.take_length] at this), rfl⟩, HO.out⟩
   ·
    exact HEX.out (HE2.out (by omega))
   ·
    exact HEX.out (HE1.out (by omega))
  case done =>
   rintro k xs W L rfl ⟨hi, rfl⟩ ho
   have c1 : W.cell? ⟨v, 0, none⟩ = some (.bool true) := ho.cell 1 rfl 0 rfl
   have HO := Hi ho
   have HI := Hi hi
   clear ho hi
   gi_wp2
   rw [Exit.noGoto_ret]
   refine ⟨by simp, .inl ⟨_, _, rfl, run_takeDeferred (HO.out.blk 0 rfl), ?_⟩⟩
   exact ⟨_, results_tmp rfl _ _ _, by rw [hV.out, HI.out]; rfl, (s6 _ _ (HO.out.put 0 rfl _)).below⟩
  case stop =>
   rintro k c pre W L hpre ⟨rfl, hno, rfl⟩ ho
   have c1 : W.cell? ⟨v, 0, none⟩ = some (.bool false) := ho.cell 1 rfl 0 rfl
   have HO := Hi ho
   have HI := Hi (all_prefix_no hpre hno)
   clear ho hno hpre
   gi_wp2
   rw [Exit.noGoto_ret]
   refine ⟨by simp, .inl ⟨_, _, rfl, run_takeDeferred (HO.out.blk 0 rfl), ?_⟩⟩
   exact ⟨_, results_tmp rfl _ _ _, by rw [hV.out, HI.out]; rfl, (s6 _ _ (HO.out.put 0 rfl _)).below⟩
 ·
  have hV := Hi (show vname s = false by unfold vname; simp [h60])
  unfold maxLen at hs
  refine callsIn_of_wp Tryz.func37 rfl trivial ?_ rfl
  simp only [Tryz.ntmps37, List.size_toArray, List.length_cons, List.length_nil, Nat.reduceAdd, Nat.reduceSub, Array.replicate_succ, Array.replicate_zero, List.push_toArray, List.append_toArray, List.nil_append, List.cons_append]
  have h60' : ¬ ((s.size : Int) ≤ 60) := by omega
  gi_wp2
  refine wpIn_scope_wide ?_
  gi_wp2
  rw [Exit.noGoto_ret]
  refine bodyPost_ret (results_tmp rfl _ _ _) rfl ?_
  exact ⟨by rw [hV.out]; rfl, Below.refl _ _⟩

end Go.Proofs.YtbhglemolpfnkaaGreatDoor
