/- slices.DeleteFunc of a row of pointers, at the closure of the resolver's finish. -/
import Derived.Test.YtbhglemolpfnkaaGreatDoorBm
import Derived.Test.YtbhglemolpfnkaaGreatDoorBe
import Derived.LaidEqlPtr
import Derived.Shelf.SlSortFuncK.RowK2
import Derived.Test.YtbhglemolpfnkaaGreatDoorBf
import Derived.Test.YtbhglemolpfnkaaGreatDoorBb
set_option linter.unusedVariables false
set_option maxRecDepth 100000
set_option maxHeartbeats 32000000
namespace Go.Proofs.YtbhglemolpfnkaaGreatDoor
open Go.RowKit Go.Sort

variable {v : Value} {P : Program}
def Live (w : World) (c : Nat) : Prop := ∃ cs t, w.heap[c]? = some (.cells cs t)
theorem ptr_eq {c b : Nat} {w : World} (hc : Live w c) (hb : Live w b) : (binOp .eql 105 (.pointer (some ⟨c, 0, none⟩)) (.pointer (some ⟨b, 0, none⟩))).run Tryz.prog w = .ok (.bool (c == b)) w := by
 obtain ⟨j, hj, hz⟩ : ∃ j, Tryz.prog.info? 107 = some j ∧ j.size ≠ 0 := ⟨_, rfl, by decide⟩
 by_cases e : c = b
 ·
  subst e
  rw [run_eql_ptr_same w ⟨c, 0, none⟩ Tryz.underlying105 hj]; simp
 ·
  obtain ⟨ca, ta, ha⟩ := hc
  obtain ⟨cb, tb, hb⟩ := hb
  rw [run_eql_ptr_other w Tryz.underlying105 hj hz (a := ⟨c, 0, none⟩) (b := ⟨b, 0, none⟩) (fun h => e (congrArg Addr.block h)) ha hb]
  have h1 : (c == b) = false := by simpa using e
  rw [h1]
theorem finc_any (c b box : Nat) (w : World) (h : w.cell? ⟨box, 0, none⟩ = some (cPt b)) (hc : Live w c) (hb : Live w b) : Calls Tryz.prog 120 #[cPt c, .pointer (some ⟨box, 0, none⟩)] w fun e w' => e = .returned (.bool (c == b)) ∧ w = w' := by
 have pe := ptr_eq hc hb
 go_enter Tryz.func120, Tryz.ntmps120
 go_wp2
 go_ret
 exact ⟨rfl, rfl⟩
structure DG {α : Type} (p : α → Bool) (l m : List α) (j k : Nat) : Prop where
 jk : j < k
 len : m.length = l.length
 done : m.take j = (l.take k).filter fun x => !p x
 todo : m.drop k = l.drop k
section
variable {α : Type} {p : α → Bool} {l m : List α} {i j k : Nat}
theorem filt_noneG (h : l.any p = false) : l.filter (fun x => !p x) = l := by
 rw [List.filter_eq_self]
 intro x hx
 rw [List.any_eq_false] at h
 simpa using h x hx
theorem DG.start (hi : i < l.length) (h1 : (l.take i).any p = false) (h2 : p l[i] = true) : DG p l l i (i + 1) :=
 ⟨by omega, rfl, by rw [filter_step hi, filt_noneG h1, h2]; simp, rfl⟩
theorem DG.skip (h : DG p l m j k) (hk : k < l.length) (h2 : p l[k] = true) : DG p l m j (k + 1) :=
 ⟨by have := h.jk; omega, h.len, by rw [h.done, filter_step hk, h2]; simp, by
  have := congrArg (List.drop 1) h.todo
  simpa [List.drop_drop, Nat.add_comm] using this⟩
theorem DG.take (h : DG p l m j k) (hk : k < l.length) (h2 : p l[k] = false) : DG p l (m.set j l[k]) (j + 1) (k + 1) := by
 have hj := h.jk
 have hl := h.len
 refine ⟨by omega, by simpa using h.len, ?_, ?_⟩
 ·
  rw [List.take_succ_eq_append_getElem (by simp; omega), List.take_set_of_le (Nat.le_refl _), h.done, filter_step hk, h2]
  simp
 ·
  rw [List.drop_set_of_lt (by omega)]
  have := congrArg (List.drop 1) h.todo
  simpa [List.drop_drop, Nat.add_comm] using this
theorem DG.get (h : DG p l m j k) (hk : k < l.length) : m[k]? = some l[k] := by
 have := congrArg (fun x : List α => x[0]?) h.todo
 simpa [List.getElem?_drop, List.getElem?_eq_getElem hk] using this
end
abbrev boxK (box b : Nat) : Res := blkR box (.cells #[cPt b] 105)
theorem indexW {w w0 : World} {D : Nat → Prop} {L : List Res} (wt : List Nat) (box b : Nat) (h : Own w0 D w (rowVw v wt :: boxK box b :: L)) (hb : b ∈ wt) (hv : ∀ {w0 w : World} {D : Nat → Prop}, Own w0 D w L → ∀ c ∈ wt, Live w c) (hl : wt.length ≤ 1000) :
  Calls Tryz.prog 158 #[v, .func (.func 120) #[] #[.pointer (some ⟨box, 0, none⟩)]] w fun e w' => e = .returned (.int .i64 (ixC (fun c => c == b) wt)) ∧ w = w' := by
 have hr := h.row 0 rfl
 obtain ⟨a, cap, rfl⟩ := row_shape hr
 have hbx := h.cell 1 rfl 0 rfl
 obtain ⟨n, hn⟩ : ∃ n, wt.length = n := ⟨_, rfl⟩
 have HN := Hi hn
 have hn1 : n ≤ 1000 := by omega
 rw [hn] at hr
 have HR := Hi hr
 have hlv := hv (h.drop 2)
 have HC := Hi (fun c hc => finc_any c b box w hbx (hlv c hc) (hlv b hb))
 rw [hn]
 clear hr hl hbx h hn hlv hv hb
 go_enter Tryz.func158, Tryz.ntmps158
 go_wp2
 go_loopw [5, 8] (fun _ i wr => ∃ k : Nat, k ≤ n ∧ i = .int .i64 k ∧ (wt.take k).any (fun c => c == b) = false ∧ w = wr) (fun _ i _ => n - (intOf i).toNat)
 case atStart => exact ⟨0, Nat.zero_le _, rfl, rfl, rfl⟩
 case round =>
  obtain ⟨k, hk, rfl, hnone, rfl⟩ := hrel
  have HU := Hi hnone
  clear hnone
  by_cases hlt : k < n
  ·
   have hkl : k < wt.length := by rw [HN.out]; exact hlt
   obtain ⟨g, rfl⟩ := row_some HR.out (by omega)
   have c0 : w.cell? ⟨g, k, none⟩ = some (cPt wt[k]) := (row_cells HR.out).1 k _ (by simp [hkl])
   have HT := Hi (any_take (p := fun c => c == b) hkl HU.out)
   have HY := Hi (ixC_hit (p := fun c => c == b) hkl HU.out)
   have HM := Hi (List.getElem_mem hkl)
   generalize wt[k] = c at *
   have hd : decide ((k : Int) < (n : Int)) = true := decide_eq_true (by omega)
   clear hkl
   go_wp2_with fail
   refine (HC.out c HM.out).mono ?_
   rintro e w1 ⟨rfl, rfl⟩
   cases he : (c == b) with
   | true =>
    have HE := Hi (HY.out he)
    clear HT HY HU he
    go_wp2
    go_ret
    exact ⟨by rw [HE.out]; rfl, rfl⟩
   | false =>
    have HT2 := Hi (HT.out.trans he)
    clear HT HY HU he
    go_wp2
    go_roundw
    case rel => exact ⟨k + 1, by omega, by go_num, HT2.out, trivial⟩
    case measure => simp [intOf]; omega
  ·
   obtain rfl : k = n := by omega
   have hd : decide ((k : Int) < (k : Int)) = false := decide_eq_false (by omega)
   have HE := Hi (ixC_none (p := fun c => c == b) (l := wt) (by have := HU.out; rwa [← HN.out, List.take_length] at this))
   clear HU
   go_wp2
   go_ret
   exact ⟨by rw [HE.out]; rfl, rfl⟩
theorem zeroPk (w : World) : (zeroValue 105).run Tryz.prog w = .ok (.pointer none) w := by kernel_rfl
theorem del_endW {w0 w : World} {F : Nat → Prop} {L : List Res} {g k cap j : Nat} {m l' : List Nat} (h : Own w0 F w (rowVw (.slice (some ⟨g, 0, none⟩) k cap) m :: L)) (hm : m.length = k) (hj : j ≤ k) (ht : m.take j = l') (zs : List Value) : Own w0 F (w.setCells g j zs) (rowVw (.slice (some ⟨g, 0, none⟩) j cap) l' :: L) := by
 have h1 : Own w0 F w (rowR (.slice (some ⟨g, 0, none⟩) k cap) 105 1 k (m.map cPt) :: L) := by rw [← hm]; rw [← hm] at h; exact h
 have h2 := (Own.rowSets 0 zs j h1 rfl)
 have h3 := Own.rowCut (n := k) h2 0 rfl j hj
 rw [Nat.mul_one, setL_take _ _ _ _ (Nat.le_refl _), ← List.map_take, ht] at h3
 have hl : l'.length = j := by rw [← ht, List.length_take]; omega
 show Own w0 F _ (rowR _ _ _ _ _ :: L)
 rw [hl]
 exact h3
def DelW (w0 : World) (D : Nat → Prop) (L : List Res) (l' : List Nat) (w : World) (e : Ending) (w' : World) : Prop := ∃ v', e = .returned v' ∧ Own w0 D w' (rowVw v' l' :: L) ∧ w.heap.size ≤ w'.heap.size
theorem delW {w w0 : World} {D : Nat → Prop} {L : List Res} (wt : List Nat) (box b : Nat) (h : Own w0 D w (rowVw v wt :: boxK box b :: L)) (hb : b ∈ wt) (hv : ∀ {w0 w : World} {D : Nat → Prop}, Own w0 D w L → ∀ c ∈ wt, Live w c) (hl : wt.length ≤ 1000) :
  Calls Tryz.prog 119 #[v, .func (.func 120) #[] #[.pointer (some ⟨box, 0, none⟩)]] w (DelW w0 D (boxK box b :: L) (wt.filter fun c => !(c == b)) w) := by
 have HO := Hi h
 have hix := indexW wt box b h hb hv hl
 have HV := Hi (show ∀ w', (∃ w0 D, Own w0 D w' L) → ∀ c ∈ wt, Live w' c from fun w' ⟨w0, D, h⟩ => hv h)
 have HB := Hi hb
 have hr := h.row 0 rfl
 obtain ⟨a, cap, rfl⟩ := row_shape hr
 obtain ⟨n, hn⟩ : ∃ n, wt.length = n := ⟨_, rfl⟩
 have HN := Hi hn
 have hn1 : n ≤ 1000 := by omega
 rw [hn] at hr HO hix ⊢
 have HR := Hi hr
 clear hr hl h hn hv hb
 cases hany : wt.any (fun c => c == b) with
 | false =>
  rw [ixC_none hany] at hix
  have HF := Hi (filt_noneG hany)
  have HS := Hi (Nat.le_refl w.heap.size)
  clear hany
  go_enter Tryz.func119, Tryz.ntmps119
  go_wp2_with fail
  refine hix.mono ?_
  rintro e x1 ⟨rfl, rfl⟩
  clear hix
  go_wp2
  go_ret
  exact ⟨_, rfl, by rw [HF.out]; have := HO.out; rw [rowVw, HN.out] at this; rw [rowVw, HN.out]; exact this, HS.out⟩
 | true =>
  obtain ⟨i, hi, h1, h2⟩ := any_first hany
  rw [ixC_hit hi h1 h2] at hix
  have HD := Hi (DG.start hi h1 h2)
  rw [HN.out] at hi
  have hne : ((i : Int) == -1) = false := by simp
  obtain ⟨g, rfl⟩ := row_some HR.out (by omega)
  have hb1 : (i : Int) ≤ 1000 := by omega
  clear hany h1 h2 HR
  go_enter Tryz.func119, Tryz.ntmps119
  go_wp2_with fail
  refine hix.mono ?_
  rintro e x1 ⟨rfl, rfl⟩
  clear hix
  go_wp2
  clear hne
  go_loopw [5, 6] (fun jv kv wr => ∃ (j k : Nat) (m : List Nat), k ≤ n ∧ jv = .int .i64 j ∧ kv = .int .i64 k ∧ DG (fun c => c == b) wt m j k ∧ Own w0 D wr (rowVw (.slice (some ⟨g, 0, none⟩) n cap) m :: boxK box b :: L) ∧ w.heap.size ≤ wr.heap.size) (fun _ kv _ => n - (intOf kv).toNat)
  case atStart => exact ⟨i, i + 1, wt, by omega, rfl, by go_num, HD.out, HO.out, Nat.le_refl _⟩
  case round =>
   obtain ⟨j, k, m, hk, rfl, rfl, hD, hO, hs⟩ := hrel
   have HO := Hi hO
   have HS := Hi hs
   have hjk : j < k := hD.jk
   have HM := Hi (show m.length = n by rw [hD.len, HN.out])
   have HD := Hi hD
   clear hO hD hs
   by_cases hlt : k < n
   ·
    have hkl : k < wt.length := by have := HN.out; omega
    have hmk := HD.out.get hkl
    have HSK := Hi (HD.out.skip (k := k) hkl)
    have HTK := Hi (HD.out.take (k := k) hkl)
    have hrw : wr.ownsRow 0 105 1 (.slice (some ⟨g, 0, none⟩) n cap) n (m.map cPt) := by have := HO.out.row 0 rfl; rwa [HM.out] at this
    have hd : decide ((k : Int) < (n : Int)) = true := decide_eq_true (by omega)
    have c0 : wr.cell? ⟨g, k, none⟩ = some (cPt wt[k]) := (row_cells hrw).1 k _ (by rw [List.getElem?_map, hmk]; rfl)
    have hlv := HV.out wr ⟨_, _, HO.out.drop 2⟩
    have HFC := Hi (finc_any wt[k] b box wr (HO.out.cell 1 rfl 0 rfl) (hlv _ (List.getElem_mem hkl)) (hlv b HB.out))
    clear hmk hlv
    generalize wt[k] = c at *
    have hjm : j < m.length := by have := HM.out; omega
    have c1 : wr.cell? ⟨g, j, none⟩ = some (cPt m[j]) := (row_cells hrw).1 j _ (by simp [hjm])
    have f1 : wr.frozen? ⟨g, j, none⟩ = false := (row_cells hrw).2 j
    generalize m[j] = o at c1
    clear hkl hrw hjm
    go_wp2_with fail
    refine HFC.out.mono ?_
    rintro e xc ⟨rfl, rfl⟩
    clear HFC
    cases hpx : (c == b) with
    | true =>
     have HD2 := Hi (HSK.out hpx)
     clear hpx HSK HTK
     go_wp2
     go_roundw
     case rel => exact ⟨j, k + 1, m, by omega, rfl, by go_num, HD2.out, HO.out, HS.out⟩
     case measure => simp [intOf]; omega
    | false =>
     have HD2 := Hi (HTK.out hpx)
     clear hpx HSK HTK
     have hO := HO.out
     rw [show rowVw (.slice (some ⟨g, 0, none⟩) n cap) m = rowR (.slice (some ⟨g, 0, none⟩) n cap) 105 1 n (m.map cPt) by show rowR _ _ _ _ _ = _; rw [HM.out]] at hO
     have hO := Own.rowSet hO 0 rfl j (cPt c)
     obtain ⟨x2, hx2⟩ : ∃ y, wr.setCell ⟨g, j, none⟩ (cPt c) = y := ⟨_, rfl⟩
     rw [hx2, ← List.map_set] at hO
     have HO2 := Hi (show Own w0 D x2 (rowVw (.slice (some ⟨g, 0, none⟩) n cap) (m.set j c) :: boxK box b :: L) by
      show Own w0 D x2 (rowR _ _ _ _ _ :: _)
      rw [List.length_set, HM.out]; exact hO)
     have HS2 := Hi (show w.heap.size ≤ x2.heap.size by rw [← hx2]; simpa using HS.out)
     clear hO
     go_wp2
     go_roundw
     case rel => exact ⟨j + 1, k + 1, m.set j c, by omega, by go_num, by go_num, HD2.out, HO2.out, HS2.out⟩
     case measure => simp [intOf]; omega
   ·
    obtain rfl : k = n := by omega
    have hd : decide ((k : Int) < (k : Int)) = false := decide_eq_false (by omega)
    have hrw : wr.ownsRow 0 105 1 (.slice (some ⟨g, 0, none⟩) k cap) k (m.map cPt) := by have := HO.out.row 0 rfl; rwa [HM.out] at this
    have hrc := row_cells hrw
    have HDN := Hi (show m.take j = wt.filter fun c => !(c == b) by
     have := HD.out.done
     rwa [← HN.out, List.take_length] at this)
    have hml : (m.map cPt).length = k := by rw [List.length_map]; exact HM.out
    obtain ⟨d, hd2⟩ : ∃ d, k - j = d := ⟨_, rfl⟩
    have hcl : ∀ ty c, (Builtin.clear_ #[101] ty #[.slice (some ⟨g, j, none⟩) d c]).run Tryz.prog wr = .ok (.tuple #[]) (wr.setCells g j (Builtin.zeroCells (.pointer none : Value).cells d).toList) := fun ty c =>
     run_clear_K wr 101 105 ty _ Tryz.underlying101 zeroPk (fun n => zeroCells_one (fun i hi => by
      have hi5 : i < 1 := hi
      obtain rfl : i = 0 := by omega
      rfl)) g j d c (by omega)
      (fun q hq => by
       have hq5 : q < d * 1 := hq
       rw [hrc.1 (j + q) _ (List.getElem?_eq_getElem (by rw [hml]; omega))]; rfl) (fun q _ => hrc.2 _)
    have hjc := row_cap hrw
    have hj1 : j ≤ cap := by omega
    have hj2 : ¬ cap = j := by omega
    have HO2 := Hi (del_endW HO.out HM.out (show j ≤ k by omega) HDN.out (Builtin.zeroCells (.pointer none : Value).cells d).toList)
    have HS2 := Hi (show w.heap.size ≤ (wr.setCells g j (Builtin.zeroCells (.pointer none : Value).cells d).toList).heap.size by rw [size_setCells]; exact HS.out)
    clear hrc hml hjc hrw
    go_wp2
    go_ret
    exact ⟨_, rfl, HO2.out, HS2.out⟩
def resKs (wl : List (Nat × Lk)) : Res := sepR (wl.map fun p => resK p.1 p.2)
abbrev ertG : Nat := 1
abbrev ertV : Value := .iface 281 (.agg #[.pointer (some ⟨3, 165, none⟩)])
structure Glo where
 a : Addr
 ok : Bool
 o1 : Obj
 o2 : Obj
 h1 : ok = true → ∀ w : World, w.heap[errG]? = some o1 → w.cell? ⟨errG, 0, none⟩ = some (errV a)
 h2 : ∀ w : World, w.heap[ertG]? = some o2 → w.cell? ⟨ertG, 0, none⟩ = some ertV
def glR (g : Glo) : Res := sepR [blkR errG g.o1, blkR ertG g.o2]
def glD : Nat → Prop := fun b => b = errG ∨ b = ertG
section
variable {w0 w w' : World} {D : Nat → Prop} {L A B : List Res} {g : Glo}
theorem glo_ert (h : Own w0 D w (glR g :: L)) : w.cell? ⟨ertG, 0, none⟩ = some ertV := g.h2 w ((Own.openC h).blk 1 rfl)
theorem glo_start (w : World) (a : Addr) (ok : Bool) (h1 : ok = true → w.cell? ⟨errG, 0, none⟩ = some (errV a)) (h2 : w.cell? ⟨ertG, 0, none⟩ = some ertV) : ∃ g : Glo, g.ok = ok ∧ Own w glD w [glR g] ∧ w.heap[errG]? = some g.o1 ∧ w.heap[ertG]? = some g.o2 := by
 have k2 : ∃ o, w.heap[ertG]? = some o := by
  cases h : w.heap[ertG]? with
  | none => simp [World.cell?, h] at h2
  | some o => exact ⟨o, rfl⟩
 obtain ⟨o2, k2⟩ := k2
 have k1 : ∃ o, w.heap[errG]? = some o := by
  have hlt := (Array.getElem?_eq_some_iff.1 k2).1
  exact ⟨_, Array.getElem?_eq_getElem (Nat.lt_trans (show errG < ertG by decide) hlt)⟩
 obtain ⟨o1, k1⟩ := k1
 refine ⟨⟨a, ok, o1, o2, fun hk w' hw => ?_, fun w' hw => ?_⟩, rfl, ?_, k1, k2⟩
 ·
  simp only [World.cell?, hw]; simpa only [World.cell?, k1] using h1 hk
 ·
  simp only [World.cell?, hw]; simpa only [World.cell?, k2] using h2
 ·
  refine Own.shut (Rs := [blkR errG o1, blkR ertG o2]) ?_
  have := Own.two (w := w) (R1 := blkR errG o1) (R2 := blkR ertG o2) (F1 := fun b => b = errG) (F2 := fun b => b = ertG) ⟨fun _ => Iff.rfl, k1⟩ ⟨fun _ => Iff.rfl, k2⟩ (fun b h1 h2 => by
   rw [h1] at h2; exact absurd h2 (by decide))
  exact this
theorem glo_below (h : Own w0 glD w (glR g :: L)) (k1 : w0.heap[errG]? = some g.o1) (k2 : w0.heap[ertG]? = some g.o2) : Below w0.heap.size w0 w := by
 have h' := Own.openC h
 refine ⟨h.upd.os, h.upd.tape, h.upd.output, h.upd.size, fun b hb => ?_⟩
 by_cases e1 : b = errG
 ·
  subst e1; rw [h'.blk 0 rfl, k1]
 ·
  by_cases e2 : b = ertG
  ·
   subst e2; rw [h'.blk 1 rfl, k2]
  ·
   exact h.upd.block b hb (fun hd => hd.elim e1 e2)
theorem Own.toEnd (h : Own w0 D w L) (n : Nat) (is : List Nat) {L' : List Res} (hL : is.filterMap (fun i => L[i]?) = L') (hlen : L.length = n) (hn : is.Nodup := by decide) (hin0 : ∀ i ∈ is, i < n := by decide) : Own w0 D w L' := by
 have hin : ∀ i ∈ is, i < L.length := fun i hi => by rw [hlen]; exact hin0 i hi
 clear hin0
 refine h.pick is hn fun k R hk => ?_
 subst hL
 have hm : is.filterMap (fun i => L[i]?) = is.attach.map (fun i => L[i.1]'(hin _ i.2)) := by
  clear hk hn h
  induction is with
  | nil => rfl
  | cons a l ih =>
   have ha := hin a List.mem_cons_self
   rw [List.filterMap_cons, List.getElem?_eq_getElem ha, ih (fun i hi => hin i (List.mem_cons_of_mem _ hi))]
   simp [List.attach_cons]
 rw [hm, List.getElem?_map] at hk
 cases hka : is.attach[k]? with
 | none => rw [hka] at hk; cases hk
 | some x =>
  rw [hka] at hk
  have hk' : L[x.1]'(hin _ x.2) = R := by simpa using hk
  have hkl : k < is.attach.length := (List.getElem?_eq_some_iff.1 hka).1
  have hx : is.attach[k] = x := (List.getElem?_eq_some_iff.1 hka).2
  refine ⟨x.1, ?_, by rw [List.getElem?_eq_getElem (hin _ x.2), hk']⟩
  rw [List.length_attach] at hkl
  rw [List.getElem?_eq_getElem hkl]
  have := congrArg Subtype.val hx
  simpa using this
end
def VPost (w0 : World) (D : Nat → Prop) (w : World) (f : Value → List Res) (e : Ending) (w' : World) : Prop := ∃ v, e = .returned v ∧ Own w0 D w' (f v) ∧ w.heap.size ≤ w'.heap.size
theorem o_frameV {fn : FuncId} {args : Array Value} {w0 w : World} {D : Nat → Prop} (A B : List Res) (f : Value → List Res) (h : Own w0 D w (A ++ B))
  (hc : ∀ D, Own w D w B → Calls P fn args w (VPost w D w f)) : Calls P fn args w (VPost w0 D w (fun v => A ++ f v)) :=
 (o_frame (Q := fun e B' => ∃ v, e = .returned v ∧ B' = f v) h fun D' hD => (hc D' hD).mono fun e w' ⟨v, h1, h2, h3⟩ => ⟨_, ⟨v, h1, rfl⟩, h2, h3⟩).mono fun e w' ⟨B', ⟨v, h1, h2⟩, h3, h4⟩ => ⟨v, h1, by subst h2; exact h3, h4⟩
theorem o_frameO {fn : FuncId} {args : Array Value} {w0 w : World} {D : Nat → Prop} (A B B' : List Res) (h : Own w0 D w (A ++ B))
  (hc : ∀ D, Own w D w B → Calls P fn args w (OPost w D B' v w)) : Calls P fn args w (OPost w0 D (A ++ B') v w) :=
 (o_frame (Q := fun e B2 => e = .returned v ∧ B2 = B') h fun D' hD => (hc D' hD).mono fun e w' ⟨h1, h2, h3⟩ => ⟨_, ⟨h1, rfl⟩, h2, h3⟩).mono fun e w' ⟨B2, ⟨h1, h2⟩, h3, h4⟩ => ⟨h1, by subst h2; exact h3, h4⟩
end Go.Proofs.YtbhglemolpfnkaaGreatDoor
