/- The reader of package dns: number, name. -/
import Derived.Test.YtbolfkojebbejaaGreatDoorDx
import Derived.Laws.Rows
import Derived.Test.YtbolfkojebbejaaGreatDoorClk
import Derived.Test.YtbolfkojebbejaaGreatDoorBg
import Derived.Defers
import Derived.Recover
import Derived.Laws.Pointers
set_option linter.unusedVariables false
set_option maxRecDepth 100000
set_option maxHeartbeats 32000000
namespace Go.Proofs.YtbolfkojebbejaaGreatDoor
open Go.RowKit Go.Sort

variable {L : List Res} {s : ByteArray} {P : Program} {b : Nat}
section
attribute [local go_sem ↓] run_bsU8
theorem writeByteB {w0 w : World} {D : Nat → Prop} {bs : List UInt8} (c : UInt8) (h : Own w0 D w L) (i : Nat) (hi : L[i]? = some (resB b bs)) (hl : bs.length + 1 ≤ 1000000) :
  Calls Tryz.prog 200 #[.pointer (some ⟨b, 0, none⟩), .int .u8 (c.toNat : Int)] w (OPost w0 D (L.set i (resB b (bs ++ [c]))) .nilIface w) := by
 refine o_one h hi fun D HO0 => ?_
 clear h hi
 obtain ⟨p, v, hp, hO⟩ := openB HO0
 have HO := Hi hO
 clear HO0 hO
 obtain ⟨n, hn⟩ : ∃ y, bs.length = y := ⟨_, rfl⟩
 have HN := Hi hn
 rw [hn] at HO hl
 clear hn
 obtain ⟨ci, hci⟩ : ∃ y : Int, (c.toNat : Int) = y := ⟨_, rfl⟩
 have HCI := Hi hci
 rw [hci]
 clear hci
 go_enter Tryz.func200, Tryz.ntmps200
 go_wp2_with fail
 refine (copyCheckB HO.out 0 rfl hp).mono ?_
 rintro e x1 ⟨rfl, hO, -⟩
 obtain ⟨a, cap, rfl⟩ := row_shape (hO.row 1 rfl)
 replace HO := Hi (show Own w D x1 [blkR b (.cells #[.pointer (some ⟨b, 0, none⟩), .slice a n cap] 259), rowR (.slice a n cap) 5 1 n (Lib.byteCells bs)] from hO)
 clear hO hp
 have c1 : x1.cell? _ = some (.slice a n cap) := HO.out.cell 0 rfl 1 rfl
 obtain ⟨x2, hx2, bl, hbl, hO⟩ := HO.out.allocE (.cells #[.int .u8 ci] 5)
 replace HO := Hi (show Own _ _ _ [_, _, blkR bl (.cells #[.int .u8 ci] 5)] from hO)
 clear hO
 go_wp2_with ((at_builtin; refine (show _ = True → _ from fun h => of_eq_true h) ?_))
 refine eq_true ?_
 refine wpList_appO rfl (.tmp 11) (.tmp 13) 109 rfl Tryz.underlying109 infoU8 rfl (by decide) HO.out 1 rfl rfl 2 1 1 [.int .u8 ci] rfl rfl rfl (by intro u hu; simp at hu; subst hu; rfl) (by unfold maxLen; omega) (by omega) ?_
 intro v' x3 hO
 clear hx2 hbl c1
 simp only [l_S, l_Z] at hO
 obtain ⟨m, hm⟩ : ∃ y, n + 1 = y := ⟨_, rfl⟩
 have HM := Hi hm
 rw [hm] at hO
 clear hm
 obtain ⟨a2, cap2, rfl⟩ := row_shape (Own.row hO 1 rfl)
 replace HO := Hi hO
 clear hO
 have ⟨c1, f1⟩ : x3.cell? _ = some (.slice a n cap) ∧ _ := HO.out.cf 0 rfl 1 rfl
 obtain ⟨x4, hx4, hO⟩ := HO.out.setE 0 rfl 1 (.slice a2 m cap2)
 replace HO := Hi (Own.take hO 2)
 clear hO
 go_wp2
 go_ret
 refine ⟨rfl, shutB (.inr rfl) (v := .slice a2 m cap2) ?_, HO.out.size⟩
 have e1 : (bs ++ [c]).length = m := by rw [List.length_append, HN.out, List.length_singleton, HM.out]
 have e2 : Lib.byteCells (bs ++ [c]) = Lib.byteCells bs ++ [.int .u8 ci] := by rw [Lib.byteCells_append, ← HCI.out]; rfl
 rw [e1, e2]
 exact HO.out
end
abbrev resRd (b : Nat) (s : ByteArray) (p : Int) : Res := blkR b (.cells #[.string s, .int .i64 p] 224)
theorem rnum {w0 w : World} {D : Nat → Prop} (k p : Nat) (m : Int) (hget : ∀ w, Calls Tryz.prog 178 #[.string s, .int .i64 p, .int .i64 k] w fun e w' => e = .returned (.tuple #[.int .i64 m, .int .i64 0]) ∧ Below w.heap.size w w') (hb : p + k ≤ 1000000) (h : Own w0 D w L) (i : Nat) (hi : L[i]? = some (resRd b s p)) :
  Calls Tryz.prog 164 #[.pointer (some ⟨b, 0, none⟩), .int .i64 k] w (OPost w0 D (L.set i (resRd b s ((p + k : Nat) : Int))) (.int .i64 m) w) := by
 refine o_one h hi fun D HO0 => ?_
 clear h hi
 have HO := Hi HO0
 have HG := Hi hget
 clear HO0 hget
 have g0 := cell_regrown (show w.cell? _ = some (.string s) from HO.out.cell 0 rfl 0 rfl)
 have g1 := cell_regrown (show w.cell? _ = some (.int .i64 p) from HO.out.cell 0 rfl 1 rfl)
 go_enter Tryz.func164, Tryz.ntmps164
 go_wp2
 refine wp_region_B (by kernel_rfl) (by kernel_rfl) ?_
 repeat (go_big_quiet_step ((go_at_call 178; exact Calls.regrown_of (HG.out _))))
 refine wpQuiet_nil ?_
 intro x1 hbw
 have hO := HO.out.stay hbw
 clear g0 g1
 replace HO := Hi hO
 clear hO hbw
 have ⟨c1, f1⟩ : x1.cell? _ = some (.int .i64 p) ∧ _ := HO.out.cf 0 rfl 1 rfl
 obtain ⟨x2, hx2, hO⟩ := HO.out.setE 0 rfl 1 (.int .i64 ((p : Int) + (k : Int)))
 replace HO := Hi (show Own w D x2 [resRd b s ((p : Int) + (k : Int))] from hO)
 clear hO
 go_wp2
 go_ret
 refine ⟨rfl, ?_, HO.out.size⟩
 rw [show ((p + k : Nat) : Int) = (p : Int) + (k : Int) by omega]
 exact HO.out
theorem beD_1 (n : Int) (h0 : 0 ≤ n) (h1 : n < 256) : beD (beN 1 n) = n := by
 show beD [by8 n 0] = n
 unfold beD
 simp only [List.foldl_cons, List.foldl_nil, by8_val]
 simp; omega
theorem beD_2 (n : Int) (h0 : 0 ≤ n) (h1 : n < 65536) : beD (beN 2 n) = n := by
 show beD [by8 n 1, by8 n 0] = n
 unfold beD
 simp only [List.foldl_cons, List.foldl_nil, by8_val]
 simp; omega
theorem beD_4 (n : Int) (h0 : 0 ≤ n) (h1 : n < 4294967296) : beD (beN 4 n) = n := by
 show beD [by8 n 3, by8 n 2, by8 n 1, by8 n 0] = n
 unfold beD
 simp only [List.foldl_cons, List.foldl_nil, by8_val]
 simp; omega
def At (s : ByteArray) (p : Nat) (l : List UInt8) : Prop := ∃ r, s.data.toList.drop p = l ++ r
theorem At.step {p : Nat} {a b : List UInt8} (h : At s p (a ++ b)) : At s p a ∧ At s (p + a.length) b := by
 obtain ⟨r, h⟩ := h
 refine ⟨⟨b ++ r, by rw [h, List.append_assoc]⟩, ⟨r, ?_⟩⟩
 rw [← List.drop_drop, h, List.append_assoc, List.drop_left]
theorem At.le {p : Nat} {a : List UInt8} (h : At s p a) (h0 : a ≠ []) : p + a.length ≤ s.size := by
 obtain ⟨r, h⟩ := h
 have := congrArg List.length h
 rw [List.length_drop, List.length_append, ← Lib.size_eq] at this
 have := List.length_pos_iff.2 h0
 omega
theorem At.take {p : Nat} {a : List UInt8} (h : At s p a) : (s.data.toList.drop p).take a.length = a := by
 obtain ⟨r, h⟩ := h
 rw [h, List.take_left]
theorem rnum1 {w0 w : World} {D : Nat → Prop} (p : Nat) (n : Int) (h0 : 0 ≤ n) (h1 : n < 256) (ha : At s p (beN 1 n)) (hs : s.size ≤ 999990) (h : Own w0 D w L) (i : Nat) (hi : L[i]? = some (resRd b s p)) :
  Calls Tryz.prog 164 #[.pointer (some ⟨b, 0, none⟩), .int .i64 1] w (OPost w0 D (L.set i (resRd b s ((p + 1 : Nat) : Int))) (.int .i64 n) w) := by
 have hle := ha.le (by simp [beN])
 have htk := ha.take
 rw [beN_len] at hle htk
 refine rnum 1 p n (fun w => ?_) (by omega) h i hi
 have := get_1 s p w hle (by unfold maxLen; omega)
 rwa [htk, beD_1 n h0 h1] at this
theorem rnum2 {w0 w : World} {D : Nat → Prop} (p : Nat) (n : Int) (h0 : 0 ≤ n) (h1 : n < 65536) (ha : At s p (beN 2 n)) (hs : s.size ≤ 999990) (h : Own w0 D w L) (i : Nat) (hi : L[i]? = some (resRd b s p)) :
  Calls Tryz.prog 164 #[.pointer (some ⟨b, 0, none⟩), .int .i64 2] w (OPost w0 D (L.set i (resRd b s ((p + 2 : Nat) : Int))) (.int .i64 n) w) := by
 have hle := ha.le (by simp [beN])
 have htk := ha.take
 rw [beN_len] at hle htk
 refine rnum 2 p n (fun w => ?_) (by omega) h i hi
 have := get_2 s p w hle (by unfold maxLen; omega)
 rwa [htk, beD_2 n h0 h1] at this
theorem rnum4 {w0 w : World} {D : Nat → Prop} (p : Nat) (n : Int) (h0 : 0 ≤ n) (h1 : n < 4294967296) (ha : At s p (beN 4 n)) (hs : s.size ≤ 999990) (h : Own w0 D w L) (i : Nat) (hi : L[i]? = some (resRd b s p)) :
  Calls Tryz.prog 164 #[.pointer (some ⟨b, 0, none⟩), .int .i64 4] w (OPost w0 D (L.set i (resRd b s ((p + 4 : Nat) : Int))) (.int .i64 n) w) := by
 have hle := ha.le (by simp [beN])
 have htk := ha.take
 rw [beN_len] at hle htk
 refine rnum 4 p n (fun w => ?_) (by omega) h i hi
 have := get_4 s p w hle (by unfold maxLen; omega)
 rwa [htk, beD_4 n h0 h1] at this
def jn : List (List UInt8) → List UInt8
 | [] => []
 | [x] => x
 | x :: y :: r => x ++ 46 :: jn (y :: r)
theorem jn_cons (x : List UInt8) (r : List (List UInt8)) (h : r ≠ []) : jn (x :: r) = x ++ 46 :: jn r := by
 cases r with
 | nil => exact absurd rfl h
 | cons y r => rfl
theorem jn_pcs : ∀ l : List UInt8, jn (pcs l) = l
 | [] => rfl
 | b :: r => by
  have ih := jn_pcs r
  simp only [pcs]
  split
  ·
   rename_i hb
   rw [jn_cons _ _ (pcs_ne r), ih, hb]; rfl
  ·
   split
   ·
    rename_i h; exact absurd h (pcs_ne r)
   ·
    rename_i p ps h
    rw [h] at ih
    cases ps with
    | nil => simp only [jn] at ih ⊢; rw [ih]
    | cons y ys => simp only [jn] at ih ⊢; rw [List.cons_append, ih]
theorem jn_snoc (y : List UInt8) : ∀ xs : List (List UInt8), xs ≠ [] → jn (xs ++ [y]) = jn xs ++ 46 :: y
 | [], h => absurd rfl h
 | [x], _ => rfl
 | x :: z :: r, _ => by
  rw [List.cons_append, jn_cons x ((z :: r) ++ [y]) (by simp), jn_cons x (z :: r) (by simp), jn_snoc y (z :: r) (by simp), List.append_assoc, List.cons_append]
theorem jn_le (x : List UInt8) (r : List (List UInt8)) : ∀ pre : List (List UInt8), (jn pre).length + x.length ≤ (jn (pre ++ x :: r)).length
 | [] => by
  cases r with
  | nil => simp [jn]
  | cons y r => simp [jn]
 | p :: pre => by
  have ih := jn_le x r pre
  rw [List.cons_append, jn_cons p (pre ++ x :: r) (by simp)]
  cases pre with
  | nil => simp only [jn, List.length_append, List.length_cons] at ih ⊢; simp at ih; simp; omega
  | cons y ys => rw [jn_cons p (y :: ys) (by simp)]; simp only [List.length_append, List.length_cons] at ih ⊢; simp at ih ⊢; omega
theorem jn_pos : ∀ pre : List (List UInt8), pre ≠ [] → (∀ x ∈ pre, x ≠ []) → 0 < (jn pre).length
 | [], h, _ => absurd rfl h
 | [x], _, hx => by simp only [jn]; exact List.length_pos_iff.2 (hx x (List.mem_singleton.2 rfl))
 | x :: y :: r, _, _ => by simp only [jn, List.length_append, List.length_cons]; omega
def hdLen : List (List UInt8) → Nat
 | [] => 0
 | x :: _ => x.length
def hdTail : List (List UInt8) → List UInt8
 | [] => []
 | x :: r => x ++ (encLs r ++ [0])
theorem encLs_split (l : List (List UInt8)) : encLs l ++ [0] = beN 1 (hdLen l : Int) ++ hdTail l := by
 cases l with
 | nil => rfl
 | cons x r => simp [encLs, encL1, hdLen, hdTail]
theorem newB {w0 w : World} {D : Nat → Prop} (h : Own w0 D w L) : Own w0 D (w.alloc (.cells #[.pointer none, .slice none 0 0] 259)) (L ++ [resB w.heap.size []]) := by
 have h0 := (Own.nil w none0).alloc (.cells #[.pointer none, .slice none 0 0] 259)
 have h1 := h0.rowNew 5 1
 have h2 : Own w none0 (w.alloc (.cells #[.pointer none, .slice none 0 0] 259)) [resB w.heap.size []] := shutB (L := []) (.inl rfl) h1
 obtain ⟨F, hF, hb, _⟩ := h2.step (i := 0) rfl
 exact h.push hF (fun b h => (hb b h).elim (fun h => h.elim) id) h2.below
def posOf (w : World) (b : Nat) : Nat := match w.cell? ⟨b, 1, none⟩ with
 | some (.int _ p) => p.toNat
 | _ => 0
theorem posOf_is {w0 w : World} {D : Nat → Prop} {p : Nat} (h : Own w0 D w L) (i : Nat) (hi : L[i]? = some (resRd b s p)) : posOf w b = p := by
 unfold posOf; rw [h.cell i hi 1 rfl]; simp
theorem lbOk_b {x : List UInt8} (h : lbOk x = true) : 1 ≤ x.length ∧ x.length ≤ 20 := by
 simp only [lbOk, lbHead, Bool.and_eq_true, decide_eq_true_eq] at h
 exact ⟨h.1.1.1.1, h.1.1.1.2⟩
theorem rname {w0 w : World} {D : Nat → Prop} (p : Nat) (nm : ByteArray) (hv : vname nm = true) (ha : At s p (encNm nm)) (hs : s.size ≤ 999990) (h : Own w0 D w L) (i : Nat) (hi : L[i]? = some (resRd b s p)) :
  Calls Tryz.prog 165 #[.pointer (some ⟨b, 0, none⟩)] w (OPost w0 D (L.set i (resRd b s ((p + (encNm nm).length : Nat) : Int))) (.string nm) w) := by
 refine o_one h hi fun D HO0 => ?_
 clear h hi
 have HO := Hi HO0
 have h60 := vname_sz hv
 have hls : (pcs nm.data.toList).all lbOk = true := by unfold vname at hv; simp at hv; simpa using hv.2
 have HLB := Hi (show ∀ x ∈ pcs nm.data.toList, lbOk x = true from List.all_eq_true.1 hls)
 have HJN := Hi (jn_pcs nm.data.toList)
 have HNL := Hi (show nm.data.toList.length ≤ 60 by rw [← Lib.size_eq]; exact h60)
 have HNE := Hi (show pcs nm.data.toList ≠ [] from pcs_ne _)
 obtain ⟨E, hE⟩ : ∃ y, p + (encNm nm).length = y := ⟨_, rfl⟩
 have HE := Hi hE
 have hle := ha.le (by unfold encNm; simp)
 have HLE := Hi (show E ≤ s.size by omega)
 unfold encNm at ha hE
 obtain ⟨ls, hlsd⟩ : ∃ y, pcs nm.data.toList = y := ⟨_, rfl⟩
 rw [hlsd] at ha hE HLB HJN HNE
 rw [encLs_split] at ha hE
 have HS := Hi hs
 obtain ⟨ha1, ha2⟩ := ha.step
 rw [beN_len] at ha2
 have hq0 : p + 1 + (hdTail ls).length = E := by rw [← hE, List.length_append, beN_len]; omega
 have hl0 : hdLen ls < 256 := by
  cases ls with
  | nil => simp [hdLen]
  | cons x r => have := lbOk_b (HLB.out x (List.mem_cons_self ..)); simp only [hdLen]; omega
 have HA1 := Hi ha1
 have HA2 := Hi ha2
 clear HO0 ha hls hlsd hv ha1 ha2 hE hle hs
 obtain ⟨x1, hx1⟩ : ∃ y, w.alloc (.cells #[.pointer none, .slice none 0 0] 259) = y := ⟨_, rfl⟩
 obtain ⟨bb, hbb⟩ : ∃ y, w.heap.size = y := ⟨_, rfl⟩
 have hO := newB HO.out
 rw [hx1, hbb] at hO
 replace HO := Hi (show Own w D x1 [resRd b s p, resB bb []] from hO)
 clear hO
 go_enter Tryz.func165, Tryz.ntmps165
 go_wp2_with fail
 refine (rnum1 p (hdLen ls : Int) (by omega) (by omega) HA1.out HS.out HO.out 0 rfl).mono ?_
 rintro e x2 ⟨rfl, hO, -⟩
 replace HO := Hi (show Own _ _ _ [resRd b s ((p + 1 : Nat) : Int), _] from hO)
 clear hO
 clear hx1 hbb
 go_wp2
 have HO := Hi (show Own w D x2 [resRd b s ((p + 1 : Nat) : Int), resB bb (jn [])] from HO.out)
 go_loopw [4] (fun nv wr => ∃ (pre suf : List (List UInt8)) (q : Nat), ls = pre ++ suf ∧ nv = .int .i64 (hdLen suf : Int) ∧ At s q (hdTail suf) ∧ q + (hdTail suf).length = E ∧ Own w D wr [resRd b s (q : Int), resB bb (jn pre)]) (fun nv wr => s.size + 5 - posOf wr b)
 case atStart => exact ⟨[], ls, p + 1, rfl, rfl, HA2.out, hq0, HO.out⟩
 case round =>
  obtain ⟨pre, suf, q, hsp, rfl, hat, hqe, hO⟩ := hrel
  replace HO := Hi hO
  clear hO
  cases suf with
  | nil =>
   obtain rfl : q = E := by simpa [hdTail] using hqe
   rw [show hdLen [] = 0 from rfl]
   rw [List.append_nil] at hsp
   subst hsp
   have hO := HO.out
   rw [HJN.out] at hO
   have HO := Hi hO
   clear hO hat
   have hne : nm.data.toList ≠ [] := by
    intro h
    have h1 := jn_pos ls HNE.out (fun x hx h => by have := lbOk_b (HLB.out x hx); rw [h] at this; simp at this)
    rw [HJN.out, h] at h1; simp at h1
   have HNN := Hi hne
   clear hne
   have hd0 : (((0 : Nat) : Int) != 0) = false := by decide
   go_wp2_with fail
   refine (bStringB HO.out 1 rfl (by have := HNL.out; omega) HNN.out).mono ?_
   rintro e x9 ⟨rfl, hO, -⟩
   have hnm : (⟨nm.data.toList.toArray⟩ : ByteArray) = nm := by rw [Array.toArray_toList]
   rw [hnm]
   clear hnm
   go_wp2
   go_ret
   exact ⟨rfl, by rw [HE.out]; exact Own.take hO 1, Own.size hO⟩
  | cons x r =>
  have hxm : x ∈ ls := by rw [hsp]; simp
  obtain ⟨hx1, hx2⟩ := lbOk_b (HLB.out x hxm)
  have HSP := Hi hsp
  have hjl := jn_le x r pre
  rw [← hsp, HJN.out] at hjl
  have hjl : (jn pre).length + x.length ≤ 60 := Nat.le_trans hjl HNL.out
  have HPP := Hi (fun (h : pre ≠ []) => jn_pos pre h (fun y hy h => by have := lbOk_b (HLB.out y (by rw [hsp]; exact List.mem_append_left _ hy)); rw [h] at this; simp at this))
  have hat : At s q (x ++ (encLs r ++ [0])) := hat
  have hqe : q + (x ++ (encLs r ++ [0])).length = E := hqe
  obtain ⟨hat1, hat2⟩ := hat.step
  rw [encLs_split] at hat2 hqe
  obtain ⟨hat2, hat3⟩ := hat2.step
  rw [beN_len] at hat3
  rw [List.length_append, List.length_append, beN_len] at hqe
  have htk := hat1.take
  have hle := hat1.le (by intro h; rw [h] at hx1; simp at hx1)
  have hl1 : hdLen r < 256 := by
   cases r with
   | nil => simp [hdLen]
   | cons y ys => have := lbOk_b (HLB.out y (by rw [hsp]; simp)); simp only [hdLen]; omega
  rw [show hdLen (x :: r) = x.length from rfl]
  obtain ⟨m, hm⟩ : ∃ y, x.length = y := ⟨_, rfl⟩
  rw [hm] at hx1 hx2 hjl hat2 hat3 hqe htk hle ⊢
  have hex : s.extract q (q + m) = ⟨x.toArray⟩ := by rw [ext_list, htk]
  have HEX := Hi hex
  have HXS := Hi (show (⟨x.toArray⟩ : ByteArray).size = m by rw [mk_size, hm])
  have HA2 := Hi hat2
  have HA3 := Hi hat3
  obtain ⟨jl, hjll⟩ : ∃ y, (jn pre).length = y := ⟨_, rfl⟩
  have HJL := Hi hjll
  rw [hjll] at hjl
  have HPQ := Hi (posOf_is HO.out 0 rfl)
  have hsz := HS.out
  have hlE := HLE.out
  have d1 : (((m : Nat) : Int) != 0) = true := by simp; omega
  have d2 : decide ((20 : Int) < (m : Int)) = false := by simp; omega
  have d3 : decide ((s.size : Int) - (q : Int) < (m : Int)) = false := by simp; omega
  have d4 : decide ((60 : Int) < (jl : Int) + (m : Int)) = false := by simp; omega
  have HBL := Hi (fun (w' : World) (hO : Own w D w' [resRd b s (q : Int), resB bb (jn pre)]) => (by have := bLenB hO 1 rfl; rwa [HJL.out] at this : Calls Tryz.prog 199 #[.pointer (some ⟨bb, 0, none⟩)] w' fun e w'' => e = .returned (.int .i64 jl) ∧ Below w'.heap.size w' w''))
  clear hat hat1 hat2 hat3 htk hex hxm hsp hm hjll HA1
  go_wp2
  have g0 := cell_regrown (show wr.cell? _ = some (.string s) from HO.out.cell 0 rfl 0 rfl)
  have g1 := cell_regrown (show wr.cell? _ = some (.int .i64 (q : Int)) from HO.out.cell 0 rfl 1 rfl)
  refine wp_region_B (by kernel_rfl) (by kernel_rfl) ?_
  repeat (go_big_quiet_step ((go_at_call 199; exact Calls.regrown_of (HBL.out _ (HO.out.stay (below_regrown _ _ _))))))
  refine wpQuiet_nil ?_
  intro x41 hbw
  have hO := HO.out.stay hbw
  clear g0 g1
  replace HO := Hi (show Own w D x41 [resRd b s (q : Int), resB bb (jn pre)] from hO)
  clear hO hbw d2 d3 d4
  cases pre with
  | nil =>
   have hj0 : jl = 0 := by have := HJL.out; simpa [jn] using this.symm
   subst hj0
   have HO := Hi (show Own w D x41 [resRd b s (q : Int), resB bb []] from HO.out)
   have hg0 : decide ((0 : Int) < ((0 : Nat) : Int)) = false := by decide
   go_wp2_with fail
   refine (o_still HO.out (HBL.out _ HO.out)).mono ?_
   rintro e x21 ⟨rfl, hO, -⟩
   replace HO := Hi hO
   clear hO
   clear hg0
   go_wp2
   have g0 := cell_regrown (show x21.cell? _ = some (.string s) from HO.out.cell 0 rfl 0 rfl)
   have g1 := cell_regrown (show x21.cell? _ = some (.int .i64 (q : Int)) from HO.out.cell 0 rfl 1 rfl)
   have c1 : (0 : Int) ≤ ↑q := by omega
   have c2 : (↑q : Int) ≤ ↑q + ↑m := by omega
   have c4 : (↑q + ↑m : Int) ≤ ↑s.size := by omega
   refine wp_region_R 15 (by kernel_rfl) (by kernel_rfl) ?_
   simp only [List.take, List.drop]
   iterate 15 (first | (refine wpR_want (by kernel_rfl) rfl rfl ?_; intro K hK; go_big_quiet_op; go_big_quiet_on) | (refine wpR_is (by kernel_rfl) rfl _ (fun w _ => rfl) ?_; simp only [Act.put, l_T, l_S, l_Z]))
   refine wpR_nil (by kernel_rfl) (by simp) ?_
   rintro x51 hb5
   simp only [exAll, List.drop]
   have hO := HO.out.stay hb5
   clear g0 g1 c1 c2 c4 hb5
   replace HO := Hi hO
   clear hO
   rw [HEX.out]
   go_wp2_with fail
   refine (writeStrB ⟨x.toArray⟩ HO.out 1 rfl (by rw [HXS.out]; simp; omega)).mono ?_
   rintro e x22 ⟨rfl, hO, -⟩
   replace HO := Hi (show Own _ _ _ [_, resB bb ([] ++ (⟨x.toArray⟩ : ByteArray).data.toList)] from hO)
   clear hO
   rw [HXS.out]
   have z0_0 : x22.cell? _ = some (.string s) := HO.out.cell 0 rfl 0 rfl
   have ⟨z0_1, y0_1⟩ : x22.cell? _ = some (.int .i64 (q : Int)) ∧ _ := HO.out.cf 0 rfl 1 rfl
   obtain ⟨x23, hx23, hO⟩ := HO.out.setE 0 rfl 1 (.int .i64 ((q : Int) + (m : Int)))
   replace HO := Hi (show Own _ _ _ [blkR b (.cells #[.string s, .int .i64 ((q : Int) + (m : Int))] 224), _] from hO)
   clear hO
   have hO : Own w D x23 [resRd b s ((q + m : Nat) : Int), resB bb (jn ([] ++ [x]))] := by
    have h := HO.out
    rw [mk_toList] at h
    rw [show ((q + m : Nat) : Int) = (q : Int) + (m : Int) by omega, show jn ([] ++ [x]) = [] ++ x from rfl]
    exact h
   replace HO := Hi hO
   clear hO
   go_wp2_with fail
   refine (rnum1 (q + m) (hdLen r : Int) (by omega) (by omega) HA2.out HS.out HO.out 0 rfl).mono ?_
   rintro e x24 ⟨rfl, hO, -⟩
   replace HO := Hi (show Own w D x24 [resRd b s ((q + m + 1 : Nat) : Int), resB bb (jn ([] ++ [x]))] from hO)
   clear hO
   clear z0_0 z0_1 y0_1 hx23
   have hps := posOf_is HO.out 0 rfl
   go_wp2
   go_roundw
   case rel => exact ⟨[] ++ [x], r, q + m + 1, by rw [HSP.out]; simp, rfl, HA3.out, by omega, HO.out⟩
   case measure => rw [hps, HPQ.out]; omega
  | cons y ys =>
   have hj0 := HPP.out (by simp)
   rw [HJL.out] at hj0
   have hg0 : decide ((0 : Int) < (jl : Int)) = true := by simp; omega
   go_wp2_with fail
   refine (o_still HO.out (HBL.out _ HO.out)).mono ?_
   rintro e x21 ⟨rfl, hO, -⟩
   replace HO := Hi (show Own _ _ _ [_, resB bb (jn (y :: ys))] from hO)
   clear hO
   go_wp2_with fail
   refine (writeByteB 46 HO.out 1 rfl (by have := HJL.out; omega)).mono ?_
   rintro e x22 ⟨rfl, hO, -⟩
   replace HO := Hi (show Own _ _ _ [_, resB bb (jn (y :: ys) ++ [46])] from hO)
   clear hO
   clear hg0
   go_wp2
   have g0 := cell_regrown (show x22.cell? _ = some (.string s) from HO.out.cell 0 rfl 0 rfl)
   have g1 := cell_regrown (show x22.cell? _ = some (.int .i64 (q : Int)) from HO.out.cell 0 rfl 1 rfl)
   have c1 : (0 : Int) ≤ ↑q := by omega
   have c2 : (↑q : Int) ≤ ↑q + ↑m := by omega
   have c4 : (↑q + ↑m : Int) ≤ ↑s.size := by omega
   refine wp_region_R 15 (by kernel_rfl) (by kernel_rfl) ?_
   simp only [List.take, List.drop]
   iterate 15 (first | (refine wpR_want (by kernel_rfl) rfl rfl ?_; intro K hK; go_big_quiet_op; go_big_quiet_on) | (refine wpR_is (by kernel_rfl) rfl _ (fun w _ => rfl) ?_; simp only [Act.put, l_T, l_S, l_Z]))
   refine wpR_nil (by kernel_rfl) (by simp) ?_
   rintro x51 hb5
   simp only [exAll, List.drop]
   have hO := HO.out.stay hb5
   clear g0 g1 c1 c2 c4 hb5
   replace HO := Hi hO
   clear hO
   rw [HEX.out]
   go_wp2_with fail
   refine (writeStrB ⟨x.toArray⟩ HO.out 1 rfl (by rw [HXS.out]; rw [List.length_append, List.length_singleton]; have := HJL.out; omega)).mono ?_
   rintro e x23 ⟨rfl, hO, -⟩
   replace HO := Hi (show Own _ _ _ [_, resB bb ((jn (y :: ys) ++ [46]) ++ (⟨x.toArray⟩ : ByteArray).data.toList)] from hO)
   clear hO
   rw [HXS.out]
   have z0_0 : x23.cell? _ = some (.string s) := HO.out.cell 0 rfl 0 rfl
   have ⟨z0_1, y0_1⟩ : x23.cell? _ = some (.int .i64 (q : Int)) ∧ _ := HO.out.cf 0 rfl 1 rfl
   obtain ⟨x24, hx24, hO⟩ := HO.out.setE 0 rfl 1 (.int .i64 ((q : Int) + (m : Int)))
   replace HO := Hi (show Own _ _ _ [blkR b (.cells #[.string s, .int .i64 ((q : Int) + (m : Int))] 224), _] from hO)
   clear hO
   have hO : Own w D x24 [resRd b s ((q + m : Nat) : Int), resB bb (jn ((y :: ys) ++ [x]))] := by
    have h := HO.out
    rw [mk_toList, List.append_assoc] at h
    rw [show ((q + m : Nat) : Int) = (q : Int) + (m : Int) by omega, jn_snoc x (y :: ys) (by simp)]
    exact h
   replace HO := Hi hO
   clear hO
   go_wp2_with fail
   refine (rnum1 (q + m) (hdLen r : Int) (by omega) (by omega) HA2.out HS.out HO.out 0 rfl).mono ?_
   rintro e x25 ⟨rfl, hO, -⟩
   replace HO := Hi (show Own w D x25 [resRd b s ((q + m + 1 : Nat) : Int), resB bb (jn ((y :: ys) ++ [x]))] from hO)
   clear hO
   clear z0_0 z0_1 y0_1 hx24
   have hps := posOf_is HO.out 0 rfl
   go_wp2
   go_roundw
   case rel => exact ⟨(y :: ys) ++ [x], r, q + m + 1, by rw [HSP.out]; simp, rfl, HA3.out, by omega, HO.out⟩
   case measure => rw [hps, HPQ.out]; omega
theorem infoRs : (Tryz.prog.info? 49).map (·.size) = some 5 := by kernel_rfl
theorem tl_len (s : ByteArray) : ∀ (n i : Nat) (r : List UInt8), s.size - i = n → (ByteArray.toList.loop s i r).length = r.length + (s.size - i) := by
 intro n
 induction n with
 | zero => intro i r h; rw [ByteArray.toList.loop.eq_def, if_neg (by omega)]; simp; omega
 | succ n ih => intro i r h; rw [ByteArray.toList.loop.eq_def, if_pos (by omega), ih _ _ (by omega)]; simp; omega
theorem toList_nil (h : s.toList = []) : s = ⟨#[]⟩ := by
 have h1 := tl_len s (s.size - 0) 0 [] rfl
 rw [show ByteArray.toList.loop s 0 [] = s.toList from rfl, h] at h1
 have h2 : s.data.size = 0 := by have : s.data.size = s.size := rfl; simp at h1; omega
 obtain ⟨d⟩ := s
 have h2 : d.size = 0 := h2
 rw [Array.eq_empty_of_size_eq_zero h2]
theorem rrec1 {w0 w : World} {D : Nat → Prop} (p E : Nat) (nm : ByteArray) (tt ad : Int) (to : ByteArray) (hn : vname nm = true) (t0 : 0 ≤ tt) (t9 : tt ≤ 1000) (h4 : adrOk ad = true) (ha : At s p (encNm nm ++ beN 1 1 ++ beN 2 tt ++ beN 4 ad)) (hE : p + (encNm nm).length + 1 + 2 + 4 = E) (hs : s.size ≤ 999990) (h : Own w0 D w L) (i : Nat) (hi : L[i]? = some (resRd b s p)) :
  Calls Tryz.prog 166 #[.pointer (some ⟨b, 0, none⟩)] w (OPost w0 D (L.set i (resRd b s (E : Int))) (.agg #[.string nm, .int .i64 1, .int .i64 tt, .int .i64 ad, .string ⟨#[]⟩]) w) := by
 refine o_one h hi fun D HO0 => ?_
 clear h hi
 have HO := Hi HO0
 obtain ⟨ha3, ha4⟩ := ha.step
 obtain ⟨ha2, ha3⟩ := ha3.step
 obtain ⟨ha1, ha2⟩ := ha2.step
 simp only [List.length_append, beN_len, ← Nat.add_assoc] at ha2 ha3 ha4
 have HN := Hi hn
 have HS := Hi hs
 have h5 : 0 ≤ ad ∧ ad < 4294967296 := by unfold adrOk at h4; simp at h4; omega
 obtain ⟨h6, h7⟩ := h5
 clear h4
 obtain ⟨e, he⟩ : ∃ y, p + (encNm nm).length = y := ⟨_, rfl⟩
 rw [he] at ha2 ha3 ha4 hE
 have HEE := Hi he
 have H1 := Hi ha1
 have H2 := Hi ha2
 have H3 := Hi ha3
 have H4 := Hi ha4
 subst hE
 clear HO0 hn hs ha ha1 ha2 ha3 ha4 he
 obtain ⟨x1, hx1, br, hbr, hO⟩ := HO.out.allocE (.cells #[.string ⟨#[]⟩, .int .i64 0, .int .i64 0, .int .i64 0, .string ⟨#[]⟩] 49)
 replace HO := Hi (show Own w D x1 [resRd b s p, blkR br (.cells #[.string ⟨#[]⟩, .int .i64 0, .int .i64 0, .int .i64 0, .string ⟨#[]⟩] 49)] from hO)
 clear hO
 obtain ⟨z1_0, z1_1, z1_2, z1_3, z1_4⟩ := HO.out.c5 1 rfl
 go_enter Tryz.func166, Tryz.ntmps166
 go_wp2_with fail
 refine (rname p nm HN.out H1.out HS.out HO.out 0 rfl).mono ?_
 rintro e x2 ⟨rfl, hO, -⟩
 replace HO := Hi (show Own _ _ _ [resRd b s ((p + (encNm nm).length : Nat) : Int), _] from hO)
 clear hO
 rw [HEE.out] at HO
 clear hx1 hbr z1_0 z1_1 z1_2 z1_3 z1_4
 have z1_0 : x2.cell? _ = some (.string ⟨#[]⟩) := HO.out.cell 1 rfl 0 rfl
 have z1_1 : x2.cell? _ = some (.int .i64 0) := HO.out.cell 1 rfl 1 rfl
 have z1_2 : x2.cell? _ = some (.int .i64 0) := HO.out.cell 1 rfl 2 rfl
 have z1_3 : x2.cell? _ = some (.int .i64 0) := HO.out.cell 1 rfl 3 rfl
 have z1_4 : x2.cell? _ = some (.string ⟨#[]⟩) := HO.out.cell 1 rfl 4 rfl
 go_wp2_with fail
 refine (rnum1 e 1 (by omega) (by omega) H2.out HS.out HO.out 0 rfl).mono ?_
 rintro e x3 ⟨rfl, hO, -⟩
 replace HO := Hi (show Own w D x3 [resRd b s ((e + 1 : Nat) : Int), blkR br (.cells #[.string ⟨#[]⟩, .int .i64 0, .int .i64 0, .int .i64 0, .string ⟨#[]⟩] 49)] from hO)
 clear hO
 clear z1_0 z1_1 z1_2 z1_3 z1_4
 obtain ⟨z1_0, z1_1, z1_2, z1_3, z1_4⟩ := HO.out.c5 1 rfl
 go_wp2_with fail
 refine (rnum2 (e + 1) tt t0 (by omega) H3.out HS.out HO.out 0 rfl).mono ?_
 rintro e x4 ⟨rfl, hO, -⟩
 replace HO := Hi (show Own _ _ _ [resRd b s ((e + 1 + 2 : Nat) : Int), _] from hO)
 clear hO
 clear z1_0 z1_1 z1_2 z1_3 z1_4
 obtain ⟨z1_0, z1_1, z1_2, z1_3, z1_4⟩ := HO.out.c5 1 rfl
 obtain ⟨x5, hx5, bx, hbx, hO⟩ := HO.out.allocE (.cells #[.string ⟨#[]⟩, .int .i64 0, .int .i64 0, .int .i64 0, .string ⟨#[]⟩] 49)
 replace HO := Hi (show Own _ _ _ [_, _, blkR bx (.cells #[.string ⟨#[]⟩, .int .i64 0, .int .i64 0, .int .i64 0, .string ⟨#[]⟩] 49)] from hO)
 clear hO
 obtain ⟨x11, x16, x20, x23, x25, hx11, hx16, hx20, hx23, hx25, k2_0_6, lk2_0_6, k2_1_12, lk2_1_12, k2_2_17, lk2_2_17, k2_3_21, lk2_3_21, k2_4_24, lk2_4_24, hO⟩ := HO.out.steps5 2 rfl (.string nm) (.int .i64 1) (.int .i64 tt) (.int .i64 0) (.string ⟨#[]⟩)
 replace HO := Hi (show Own _ _ _ [_, _, blkR bx (.cells #[.string nm, .int .i64 1, .int .i64 tt, .int .i64 0, .string ⟨#[]⟩] 49)] from hO)
 clear hO
 obtain ⟨z2_0, z2_1, z2_2, z2_3, z2_4⟩ := HO.out.c5 2 rfl
 go_wp2_with fail
 refine (rnum4 (e + 1 + 2) ad h6 h7 H4.out HS.out HO.out 0 rfl).mono ?_
 rintro e x26 ⟨rfl, hO, -⟩
 replace HO := Hi (show Own _ _ _ [resRd b s ((e + 1 + 2 + 4 : Nat) : Int), _, _] from hO)
 clear hO
 clear z1_0 z1_1 z1_2 z1_3 z1_4 hx5 hbx k2_0_6 lk2_0_6 hx11 k2_1_12 lk2_1_12 hx16 k2_2_17 lk2_2_17 hx20 k2_3_21 lk2_3_21 hx23 k2_4_24 lk2_4_24 hx25 z2_0 z2_1 z2_2 z2_3 z2_4
 obtain ⟨z2_0, z2_1, z2_2, z2_3, -⟩ := HO.out.c5 2 rfl
 have z2_4 : x26.cell? _ = some (.string ⟨#[]⟩) := HO.out.cell 2 rfl 4 rfl
 have y2_3 := HO.out.frz 2 rfl 3
 obtain ⟨x27, hx27, hO⟩ := HO.out.setE 2 rfl 3 (.int .i64 ad)
 replace HO := Hi (show Own _ _ _ [_, _, blkR bx (.cells #[.string nm, .int .i64 1, .int .i64 tt, .int .i64 ad, .string ⟨#[]⟩] 49)] from hO)
 clear hO
 obtain ⟨z2_0t, z2_1t, z2_2t, z2_3t, z2_4t⟩ := HO.out.c5 2 rfl
 obtain ⟨x33, x38, x42, x45, x47, hx33, hx38, hx42, hx45, hx47, k1_0_28, lk1_0_28, k1_1_34, lk1_1_34, k1_2_39, lk1_2_39, k1_3_43, lk1_3_43, k1_4_46, lk1_4_46, hO⟩ := HO.out.steps5 1 rfl (.string nm) (.int .i64 1) (.int .i64 tt) (.int .i64 ad) (.string ⟨#[]⟩)
 replace HO := Hi (show Own _ _ _ [_, blkR br (.cells #[.string nm, .int .i64 1, .int .i64 tt, .int .i64 ad, .string ⟨#[]⟩] 49), _] from hO)
 clear hO
 obtain ⟨z1_0, z1_1, z1_2, z1_3, z1_4⟩ := HO.out.c5 1 rfl
 go_wp2
 refine bodyPost_ret (results_cell_row (P := Tryz.prog) rfl _ _ br 49 _ _ _ rfl (HO.out.blk 1 rfl) Tryz.underlying49 rfl infoRs) rfl ?_
 exact ⟨rfl, HO.out.take 1, HO.out.size⟩
theorem rrec2 {w0 w : World} {D : Nat → Prop} (p E : Nat) (nm : ByteArray) (tt ad : Int) (to : ByteArray) (hn : vname nm = true) (t0 : 0 ≤ tt) (t9 : tt ≤ 1000) (h4 : vname to = true) (ha : At s p (encNm nm ++ beN 1 2 ++ beN 2 tt ++ encNm to)) (hE : p + (encNm nm).length + 1 + 2 + (encNm to).length = E) (hs : s.size ≤ 999990) (h : Own w0 D w L) (i : Nat) (hi : L[i]? = some (resRd b s p)) :
  Calls Tryz.prog 166 #[.pointer (some ⟨b, 0, none⟩)] w (OPost w0 D (L.set i (resRd b s (E : Int))) (.agg #[.string nm, .int .i64 2, .int .i64 tt, .int .i64 0, .string to]) w) := by
 refine o_one h hi fun D HO0 => ?_
 clear h hi
 have HO := Hi HO0
 obtain ⟨ha3, ha4⟩ := ha.step
 obtain ⟨ha2, ha3⟩ := ha3.step
 obtain ⟨ha1, ha2⟩ := ha2.step
 simp only [List.length_append, beN_len, ← Nat.add_assoc] at ha2 ha3 ha4
 have HN := Hi hn
 have HS := Hi hs
 have HT := Hi h4
 clear h4
 obtain ⟨e, he⟩ : ∃ y, p + (encNm nm).length = y := ⟨_, rfl⟩
 rw [he] at ha2 ha3 ha4 hE
 have HEE := Hi he
 have H1 := Hi ha1
 have H2 := Hi ha2
 have H3 := Hi ha3
 have H4 := Hi ha4
 subst hE
 clear HO0 hn hs ha ha1 ha2 ha3 ha4 he
 obtain ⟨x1, hx1, br, hbr, hO⟩ := HO.out.allocE (.cells #[.string ⟨#[]⟩, .int .i64 0, .int .i64 0, .int .i64 0, .string ⟨#[]⟩] 49)
 replace HO := Hi (show Own w D x1 [resRd b s p, blkR br (.cells #[.string ⟨#[]⟩, .int .i64 0, .int .i64 0, .int .i64 0, .string ⟨#[]⟩] 49)] from hO)
 clear hO
 obtain ⟨z1_0, z1_1, z1_2, z1_3, z1_4⟩ := HO.out.c5 1 rfl
 go_enter Tryz.func166, Tryz.ntmps166
 go_wp2_with fail
 refine (rname p nm HN.out H1.out HS.out HO.out 0 rfl).mono ?_
 rintro e x2 ⟨rfl, hO, -⟩
 replace HO := Hi (show Own _ _ _ [resRd b s ((p + (encNm nm).length : Nat) : Int), _] from hO)
 clear hO
 rw [HEE.out] at HO
 clear hx1 hbr z1_0 z1_1 z1_2 z1_3 z1_4
 have z1_0 : x2.cell? _ = some (.string ⟨#[]⟩) := HO.out.cell 1 rfl 0 rfl
 have z1_1 : x2.cell? _ = some (.int .i64 0) := HO.out.cell 1 rfl 1 rfl
 have z1_2 : x2.cell? _ = some (.int .i64 0) := HO.out.cell 1 rfl 2 rfl
 have z1_3 : x2.cell? _ = some (.int .i64 0) := HO.out.cell 1 rfl 3 rfl
 have z1_4 : x2.cell? _ = some (.string ⟨#[]⟩) := HO.out.cell 1 rfl 4 rfl
 go_wp2_with fail
 refine (rnum1 e 2 (by omega) (by omega) H2.out HS.out HO.out 0 rfl).mono ?_
 rintro e x3 ⟨rfl, hO, -⟩
 replace HO := Hi (show Own w D x3 [resRd b s ((e + 1 : Nat) : Int), blkR br (.cells #[.string ⟨#[]⟩, .int .i64 0, .int .i64 0, .int .i64 0, .string ⟨#[]⟩] 49)] from hO)
 clear hO
 clear z1_0 z1_1 z1_2 z1_3 z1_4
 obtain ⟨z1_0, z1_1, z1_2, z1_3, z1_4⟩ := HO.out.c5 1 rfl
 go_wp2_with fail
 refine (rnum2 (e + 1) tt t0 (by omega) H3.out HS.out HO.out 0 rfl).mono ?_
 rintro e x4 ⟨rfl, hO, -⟩
 replace HO := Hi (show Own _ _ _ [resRd b s ((e + 1 + 2 : Nat) : Int), _] from hO)
 clear hO
 clear z1_0 z1_1 z1_2 z1_3 z1_4
 obtain ⟨z1_0, z1_1, z1_2, z1_3, z1_4⟩ := HO.out.c5 1 rfl
 obtain ⟨x5, hx5, bx, hbx, hO⟩ := HO.out.allocE (.cells #[.string ⟨#[]⟩, .int .i64 0, .int .i64 0, .int .i64 0, .string ⟨#[]⟩] 49)
 replace HO := Hi (show Own _ _ _ [_, _, blkR bx (.cells #[.string ⟨#[]⟩, .int .i64 0, .int .i64 0, .int .i64 0, .string ⟨#[]⟩] 49)] from hO)
 clear hO
 obtain ⟨x11, x16, x20, x23, x25, hx11, hx16, hx20, hx23, hx25, k2_0_6, lk2_0_6, k2_1_12, lk2_1_12, k2_2_17, lk2_2_17, k2_3_21, lk2_3_21, k2_4_24, lk2_4_24, hO⟩ := HO.out.steps5 2 rfl (.string nm) (.int .i64 2) (.int .i64 tt) (.int .i64 0) (.string ⟨#[]⟩)
 replace HO := Hi (show Own _ _ _ [_, _, blkR bx (.cells #[.string nm, .int .i64 2, .int .i64 tt, .int .i64 0, .string ⟨#[]⟩] 49)] from hO)
 clear hO
 obtain ⟨z2_0, z2_1, z2_2, z2_3, z2_4⟩ := HO.out.c5 2 rfl
 go_wp2_with fail
 refine (rname (e + 1 + 2) to HT.out H4.out HS.out HO.out 0 rfl).mono ?_
 rintro e x26 ⟨rfl, hO, -⟩
 replace HO := Hi (show Own _ _ _ [resRd b s ((e + 1 + 2 + (encNm to).length : Nat) : Int), _, _] from hO)
 clear hO
 clear z1_0 z1_1 z1_2 z1_3 z1_4 hx5 hbx k2_0_6 lk2_0_6 hx11 k2_1_12 lk2_1_12 hx16 k2_2_17 lk2_2_17 hx20 k2_3_21 lk2_3_21 hx23 k2_4_24 lk2_4_24 hx25 z2_0 z2_1 z2_2 z2_3 z2_4
 obtain ⟨z2_0, z2_1, z2_2, z2_3, -⟩ := HO.out.c5 2 rfl
 have ⟨z2_4, y2_4⟩ : x26.cell? _ = some (.string ⟨#[]⟩) ∧ _ := HO.out.cf 2 rfl 4 rfl
 obtain ⟨x27, hx27, hO⟩ := HO.out.setE 2 rfl 4 (.string to)
 replace HO := Hi (show Own _ _ _ [_, _, blkR bx (.cells #[.string nm, .int .i64 2, .int .i64 tt, .int .i64 0, .string to] 49)] from hO)
 clear hO
 obtain ⟨z2_0t, z2_1t, z2_2t, z2_3t, z2_4t⟩ := HO.out.c5 2 rfl
 obtain ⟨x33, x38, x42, x45, x47, hx33, hx38, hx42, hx45, hx47, k1_0_28, lk1_0_28, k1_1_34, lk1_1_34, k1_2_39, lk1_2_39, k1_3_43, lk1_3_43, k1_4_46, lk1_4_46, hO⟩ := HO.out.steps5 1 rfl (.string nm) (.int .i64 2) (.int .i64 tt) (.int .i64 0) (.string to)
 replace HO := Hi (show Own _ _ _ [_, blkR br (.cells #[.string nm, .int .i64 2, .int .i64 tt, .int .i64 0, .string to] 49), _] from hO)
 clear hO
 obtain ⟨z1_0, z1_1, z1_2, z1_3, z1_4⟩ := HO.out.c5 1 rfl
 go_wp2
 refine bodyPost_ret (results_cell_row (P := Tryz.prog) rfl _ _ br 49 _ _ _ rfl (HO.out.blk 1 rfl) Tryz.underlying49 rfl infoRs) rfl ?_
 exact ⟨rfl, HO.out.take 1, HO.out.size⟩
theorem rrec {w0 w : World} {D : Nat → Prop} (p : Nat) (r : Rc) (hr : RcV r) (ha : At s p (encRec r)) (hs : s.size ≤ 999990) (h : Own w0 D w L) (i : Nat) (hi : L[i]? = some (resRd b s p)) :
  Calls Tryz.prog 166 #[.pointer (some ⟨b, 0, none⟩)] w (OPost w0 D (L.set i (resRd b s ((p + (encRec r).length : Nat) : Int))) (rcV r) w) := by
 obtain ⟨nm, kd, tt, ad, to⟩ := r
 obtain ⟨h1, h2, h3, h4⟩ := hr
 rcases h4 with ⟨rfl, h4, h5⟩ | ⟨rfl, h4, rfl⟩
 ·
  obtain rfl := toList_nil h5
  refine rrec1 p _ nm tt ad ⟨#[]⟩ h1 h2 h3 h4 ha ?_ hs h i hi
  unfold encRec; simp only [List.length_append, beN_len]; simp [beN_len]; omega
 ·
  refine rrec2 p _ nm tt 0 to h1 h2 h3 h4 ha ?_ hs h i hi
  unfold encRec; simp only [List.length_append, beN_len]; simp; omega
def cpS (L0 L1 : List Res) (i : Nat) (news : List Value) (T : TypeId) (R : Value → Res) : List Value → List Res → Prop
 | [], L' => L' = L0
 | _ :: vs, L' => apS L1 i news T R vs L'
section
variable {w0 w : World} {D : Nat → Prop} {L0 L1 : List Res} {i : Nat} {news : List Value} {T : TypeId} {R : Value → Res}
theorem cpS_start (h : Own w0 D w L0) : (ghS w0 D (cpS L0 L1 i news T R)).inv [] w := ⟨L0, rfl, h⟩
theorem cpS_cell (k : Nat) {c : Array Value} {t : TypeId} (h0 : L0[k]? = some (blkR b (.cells c t))) (h1 : L1[k]? = some (blkR b (.cells c t))) (hki : k ≠ i) (j : Nat) {u : Value} (hj : c[j]? = some u) (p : (ghS w0 D (cpS L0 L1 i news T R)).Wd) : p.w.cell? ⟨b, j, none⟩ = some u := by
 obtain ⟨vs, w, L', h3, h2⟩ := p
 match vs, h3 with
 | [], h3 => cases h3; exact h2.cell (t := t) (c := c) k h0 j hj
 | r :: vs, h3 => exact apS_cell k h1 hki j hj ⟨vs, w, L', h3, h2⟩
theorem cpS_call {f : FuncId} {args : Array Value} {vs : List Value} {v : Value} (hinv : (ghS w0 D (cpS L0 L1 i news T R)).inv vs w) (hk : vs.length = 0)
  (hc : Own w0 D w L0 → Calls P f args w (OPost w0 D L1 v w)) : Calls P f args w fun e w' => e = .returned v ∧ (ghS w0 D (cpS L0 L1 i news T R)).mv vs w v w' := by
 obtain rfl : vs = [] := List.eq_nil_of_length_eq_zero hk
 obtain ⟨L', h1, h2⟩ := hinv
 cases h1
 exact (hc h2).mono fun e w' ⟨he, ho, hs⟩ => ⟨he, ghS_mv (L := L1) rfl ho hs⟩
theorem cpS_build {vs : List Value} (h : (ghS w0 D (cpS L0 L1 i news T R)).inv vs w) (hl : vs.length = 1) : (ghS w0 D (cpS L0 L1 i news T R)).mv vs w (.slice (some ⟨w.heap.size, 0, none⟩) 1 1) (w.alloc (.cells news.toArray T)) := by
 obtain ⟨r, rfl⟩ := List.length_eq_one_iff.1 hl
 exact apS_build (w0 := w0) (D := D) (L := L1) (i := i) (R := R) (vs := []) h rfl
theorem cpS_app {o : Oper} {a : Act} {g : GW} {Q : Exit → Act → World → Prop} (s x : Operand) (t : TypeId) (ho : o.op = .call { callee := .builtin .append, args := #[s, x], argTypes := #[t, t] })
  {z : Value} {size bytes : Nat} (ht : P.underlying t = some (.slice T)) (hi0 : (P.info? T).map (fun i => (i.zero, i.size, i.bytes)) = some (some z, size, bytes)) (hzs : z.cells.size = size) (hsz : 0 < size)
  {v : Value} {n : Nat} {xs : List Value} (hL : L1[i]? = some (rowR v T size n xs)) (hnl : news.length = size) (h1 : ∀ u ∈ news, u.oneCell' = true) (h63 : n + 1 ≤ maxLen) (hbytes : (n + 1) * bytes ≤ 140737488355328)
  (hinv : (ghS w0 D (cpS L0 L1 i news T (fun v' => rowR v' T size (n + 1) (xs ++ news)))).inv g.vs g.w) (hl : g.vs.length = 2) (hs : a.eval s = v) (hx : g.vs[1]? = some (a.eval x)) :
  o.wp P a g.w (fun a' w' => ∃ v', a' = a.put o.dst v' ∧ (ghS w0 D (cpS L0 L1 i news T (fun v' => rowR v' T size (n + 1) (xs ++ news)))).mv g.vs g.w v' w' ∧ gnth 2 v' ⟨g.vs ++ [v'], w'⟩) Q := by
 obtain ⟨vs, w⟩ := g
 obtain ⟨r, u, rfl⟩ : ∃ r u, vs = [r, u] := by
  match vs, hl with
  | [r, u], _ => exact ⟨r, u, rfl⟩
 refine wp_next (apS_app (w0 := w0) (D := D) (L := L1) (i := i) (news := news) (T := T) (g := ⟨[u], w⟩) s x t ho ht hi0 hzs hsz hL hnl h1 h63 hbytes hinv rfl hs hx) ?_
 rintro a' w' ⟨v', h1, h2, h3⟩
 exact ⟨v', h1, h2, h3⟩
theorem cpS_end {g : GW} (h : (ghS w0 D (cpS L0 L1 i news T R)).inv g.vs g.w) (hl : g.vs.length = 3) : ∃ r s v, g.vs = [r, s, v] ∧ Own w0 D g.w (L1.set i (R v)) := by
 obtain ⟨vs, w⟩ := g
 obtain ⟨r, s, v, rfl⟩ : ∃ r s v, vs = [r, s, v] := by
  match vs, hl with
  | [r, s, v], _ => exact ⟨r, s, v, rfl⟩
 obtain ⟨L', h1, h2⟩ := h
 cases h1
 exact ⟨r, s, v, rfl, h2⟩
end
theorem infoDs : (Tryz.prog.info? 86).map (·.size) = some 6 := by kernel_rfl
theorem rmsg_true {w0 w : World} {D : Nat → Prop} {R1 R2 : Res} (id cd : Int) (nm : ByteArray) (kd : Int) (rs : List Rc) (n : Nat) (hn : rs.length = n) (hd : DmV ⟨id, true, cd, nm, kd, rs⟩) (ha : At s 0 (encM ⟨id, true, cd, nm, kd, rs⟩)) (hs : s.size ≤ 999990) (h : Own w0 D w [resRd b s (0 : Nat), R1, R2]) :
  Calls Tryz.prog 122 #[.pointer (some ⟨b, 0, none⟩)] w fun e w' => ∃ v q, e = .returned (.agg #[.int .i64 id, .bool true, .int .i64 cd, .string nm, .int .i64 kd, v]) ∧ Own w0 D w' [resRd b s q, R1, R2, rowR v 49 5 n (rs.flatMap cRc)] := by
 have HO := Hi h
 obtain ⟨⟨h1, h2⟩, ⟨h3, h4⟩, h5, h6, h7, h8, h9⟩ := id_dm hd
 have h1 : 0 ≤ id := h1
 have h2 : id ≤ 65535 := h2
 have h3 : 0 ≤ cd := h3
 have h4 : cd ≤ 2 := h4
 have h5 : vname nm = true := h5
 have h6 : kd = 1 ∨ kd = 2 := h6
 have h7 : rs.length ≤ 8 := h7
 have HV := Hi h5
 have HRS := Hi h8
 have HN := Hi hn
 have HS := Hi hs
 have hk : 0 ≤ kd ∧ kd < 256 := by rcases h6 with h | h <;> omega
 obtain ⟨hk0, hk1⟩ := hk
 have hnn : n ≤ 8 := by omega
 unfold encM encHd at ha
 dsimp only at ha
 rw [hn] at ha
 obtain ⟨ha, ha7⟩ := ha.step
 obtain ⟨ha, ha6⟩ := ha.step
 obtain ⟨ha, ha5⟩ := ha.step
 obtain ⟨ha, ha4⟩ := ha.step
 obtain ⟨ha, ha3⟩ := ha.step
 obtain ⟨ha1, ha2⟩ := ha.step
 simp only [List.length_append, beN_len, Nat.zero_add] at ha2 ha3 ha4 ha5 ha6 ha7
 obtain ⟨e, he⟩ : ∃ y, 2 + 1 + 1 + 1 + (encNm nm).length = y := ⟨_, rfl⟩
 rw [he] at ha6 ha7
 have HEE := Hi he
 have H1 := Hi ha1
 have H2 := Hi (show At s 2 (beN 1 1) from ha2)
 have H3 := Hi ha3
 have H4 := Hi ha4
 have H5 := Hi ha5
 have H6 := Hi ha6
 have H7 := Hi ha7
 clear h hn hd hs h5 h6 h7 h8 h9 ha ha1 ha2 ha3 ha4 ha5 ha6 ha7 he
 obtain ⟨x1, hx1, bd, hbd, hO⟩ := HO.out.allocE (.cells #[.int .i64 0, .bool false, .int .i64 0, .string ⟨#[]⟩, .int .i64 0, .slice none 0 0] 86)
 replace HO := Hi (show Own w0 D x1 [resRd b s (0 : Nat), R1, R2, blkR bd (.cells #[.int .i64 0, .bool false, .int .i64 0, .string ⟨#[]⟩, .int .i64 0, .slice none 0 0] 86)] from hO)
 clear hO
 obtain ⟨z3_0, z3_1, z3_2, z3_3, z3_4, z3_5⟩ := HO.out.c6 3 rfl
 obtain ⟨x2, hx2, bm, hbm, hO⟩ := HO.out.allocE (.cells #[.int .i64 0, .bool false, .int .i64 0, .string ⟨#[]⟩, .int .i64 0, .slice none 0 0] 86)
 replace HO := Hi (show Own _ _ _ [_, _, _, _, blkR bm (.cells #[.int .i64 0, .bool false, .int .i64 0, .string ⟨#[]⟩, .int .i64 0, .slice none 0 0] 86)] from hO)
 clear hO
 obtain ⟨z4_0, z4_1, z4_2, z4_3, z4_4, z4_5⟩ := HO.out.c6 4 rfl
 go_enter Tryz.func122, Tryz.ntmps122
 go_wp2_with fail
 refine (rnum2 0 id h1 (by omega) H1.out HS.out HO.out 0 rfl).mono ?_
 rintro e x3 ⟨rfl, hO, -⟩
 replace HO := Hi (show Own _ _ _ [resRd b s ((0 + 2 : Nat) : Int), _, _, _, _] from hO)
 clear hO
 clear hx1 hbd z3_0 z3_1 z3_2 z3_3 z3_4 z3_5 hx2 hbm z4_0 z4_1 z4_2 z4_3 z4_4 z4_5
 obtain ⟨z4_0, z4_1, z4_2, z4_3, z4_4, -⟩ := HO.out.c6 4 rfl
 have z4_5 : x3.cell? _ = some (.slice none 0 0) := HO.out.cell 4 rfl 5 rfl
 have y4_0 := HO.out.frz 4 rfl 0
 obtain ⟨x4, hx4, hO⟩ := HO.out.setE 4 rfl 0 (.int .i64 id)
 replace HO := Hi (show Own _ _ _ [_, _, _, _, blkR bm (.cells #[.int .i64 id, .bool false, .int .i64 0, .string ⟨#[]⟩, .int .i64 0, .slice none 0 0] 86)] from hO)
 clear hO
 obtain ⟨z4_0t, z4_1t, z4_2t, z4_3t, z4_4t, z4_5t⟩ := HO.out.c6 4 rfl
 replace HO := Hi (show Own w0 D x4 [resRd b s ((2 : Nat) : Int), R1, R2, blkR bd (.cells #[.int .i64 0, .bool false, .int .i64 0, .string ⟨#[]⟩, .int .i64 0, .slice none 0 0] 86), blkR bm (.cells #[.int .i64 id, .bool false, .int .i64 0, .string ⟨#[]⟩, .int .i64 0, .slice none 0 0] 86)] from HO.out)
 go_wp2_with fail
 refine (rnum1 2 1 (by omega) (by omega) H2.out HS.out HO.out 0 rfl).mono ?_
 rintro e x5 ⟨rfl, hO, -⟩
 replace HO := Hi (show Own _ _ _ [resRd b s ((2 + 1 : Nat) : Int), _, _, _, _] from hO)
 clear hO
 clear z4_0 z4_1 z4_2 z4_3 z4_4 z4_5 y4_0 hx4 z4_0t z4_1t z4_2t z4_3t z4_4t z4_5t
 obtain ⟨z4_0, z4_1, z4_2, z4_3, z4_4, -⟩ := HO.out.c6 4 rfl
 have z4_5 : x5.cell? _ = some (.slice none 0 0) := HO.out.cell 4 rfl 5 rfl
 have y4_1 := HO.out.frz 4 rfl 1
 obtain ⟨x6, hx6, hO⟩ := HO.out.setE 4 rfl 1 (.bool true)
 replace HO := Hi (show Own _ _ _ [_, _, _, _, blkR bm (.cells #[.int .i64 id, .bool true, .int .i64 0, .string ⟨#[]⟩, .int .i64 0, .slice none 0 0] 86)] from hO)
 clear hO
 obtain ⟨z4_0t, z4_1t, z4_2t, z4_3t, z4_4t, z4_5t⟩ := HO.out.c6 4 rfl
 go_wp2_with fail
 refine (rnum1 (2 + 1) cd h3 (by omega) H3.out HS.out HO.out 0 rfl).mono ?_
 rintro e x7 ⟨rfl, hO, -⟩
 replace HO := Hi (show Own _ _ _ [resRd b s ((2 + 1 + 1 : Nat) : Int), _, _, _, _] from hO)
 clear hO
 clear z4_0 z4_1 z4_2 z4_3 z4_4 z4_5 y4_1 hx6 z4_0t z4_1t z4_2t z4_3t z4_4t z4_5t
 obtain ⟨z4_0, z4_1, z4_2, z4_3, z4_4, -⟩ := HO.out.c6 4 rfl
 have z4_5 : x7.cell? _ = some (.slice none 0 0) := HO.out.cell 4 rfl 5 rfl
 have y4_2 := HO.out.frz 4 rfl 2
 obtain ⟨x8, hx8, hO⟩ := HO.out.setE 4 rfl 2 (.int .i64 cd)
 replace HO := Hi (show Own _ _ _ [_, _, _, _, blkR bm (.cells #[.int .i64 id, .bool true, .int .i64 cd, .string ⟨#[]⟩, .int .i64 0, .slice none 0 0] 86)] from hO)
 clear hO
 obtain ⟨z4_0t, z4_1t, z4_2t, z4_3t, z4_4t, z4_5t⟩ := HO.out.c6 4 rfl
 go_wp2_with fail
 refine (rnum1 (2 + 1 + 1) kd hk0 hk1 H4.out HS.out HO.out 0 rfl).mono ?_
 rintro e x9 ⟨rfl, hO, -⟩
 replace HO := Hi (show Own _ _ _ [resRd b s ((2 + 1 + 1 + 1 : Nat) : Int), _, _, _, _] from hO)
 clear hO
 clear z4_0 z4_1 z4_2 z4_3 z4_4 z4_5 y4_2 hx8 z4_0t z4_1t z4_2t z4_3t z4_4t z4_5t
 obtain ⟨z4_0, z4_1, z4_2, z4_3, z4_4, -⟩ := HO.out.c6 4 rfl
 have z4_5 : x9.cell? _ = some (.slice none 0 0) := HO.out.cell 4 rfl 5 rfl
 have y4_4 := HO.out.frz 4 rfl 4
 obtain ⟨x10, hx10, hO⟩ := HO.out.setE 4 rfl 4 (.int .i64 kd)
 replace HO := Hi (show Own _ _ _ [_, _, _, _, blkR bm (.cells #[.int .i64 id, .bool true, .int .i64 cd, .string ⟨#[]⟩, .int .i64 kd, .slice none 0 0] 86)] from hO)
 clear hO
 obtain ⟨z4_0t, z4_1t, z4_2t, z4_3t, z4_4t, z4_5t⟩ := HO.out.c6 4 rfl
 go_wp2_with fail
 refine (rname (2 + 1 + 1 + 1) nm HV.out H5.out HS.out HO.out 0 rfl).mono ?_
 rintro e x11 ⟨rfl, hO, -⟩
 replace HO := Hi (show Own _ _ _ [resRd b s ((2 + 1 + 1 + 1 + (encNm nm).length : Nat) : Int), _, _, _, _] from hO)
 clear hO
 clear z4_0 z4_1 z4_2 z4_3 z4_4 z4_5 y4_4 hx10 z4_0t z4_1t z4_2t z4_3t z4_4t z4_5t
 rw [HEE.out] at HO
 have z4_0 : x11.cell? _ = some (.int .i64 id) := HO.out.cell 4 rfl 0 rfl
 have z4_1 : x11.cell? _ = some (.bool true) := HO.out.cell 4 rfl 1 rfl
 have z4_2 : x11.cell? _ = some (.int .i64 cd) := HO.out.cell 4 rfl 2 rfl
 have z4_3 : x11.cell? _ = some (.string ⟨#[]⟩) := HO.out.cell 4 rfl 3 rfl
 have z4_4 : x11.cell? _ = some (.int .i64 kd) := HO.out.cell 4 rfl 4 rfl
 have z4_5 : x11.cell? _ = some (.slice none 0 0) := HO.out.cell 4 rfl 5 rfl
 have y4_3 := HO.out.frz 4 rfl 3
 obtain ⟨x12, hx12, hO⟩ := HO.out.setE 4 rfl 3 (.string nm)
 replace HO := Hi (show Own w0 D x12 [resRd b s (e : Int), R1, R2, blkR bd (.cells #[.int .i64 0, .bool false, .int .i64 0, .string ⟨#[]⟩, .int .i64 0, .slice none 0 0] 86), blkR bm (.cells #[.int .i64 id, .bool true, .int .i64 cd, .string nm, .int .i64 kd, .slice none 0 0] 86)] from hO)
 clear hO
 obtain ⟨z4_0t, z4_1t, z4_2t, z4_3t, z4_4t, z4_5t⟩ := HO.out.c6 4 rfl
 go_wp2_with fail
 refine (rnum1 e (n : Int) (by omega) (by omega) H6.out HS.out HO.out 0 rfl).mono ?_
 rintro e x13 ⟨rfl, hO, -⟩
 replace HO := Hi (show Own _ _ _ [resRd b s ((e + 1 : Nat) : Int), _, _, _, _] from hO)
 clear hO
 clear z4_0 z4_1 z4_2 z4_3 z4_4 z4_5 y4_3 hx12 z4_0t z4_1t z4_2t z4_3t z4_4t z4_5t
 go_wp2
 have HO := Hi (show Own w0 D x13 ([resRd b s ((e + 1 : Nat) : Int), R1, R2, blkR bd (.cells #[.int .i64 0, .bool false, .int .i64 0, .string ⟨#[]⟩, .int .i64 0, .slice none 0 0] 86), blkR bm (.cells #[.int .i64 id, .bool true, .int .i64 cd, .string nm, .int .i64 kd, .slice none 0 0] 86)] ++ [rowR (.slice none 0 0) 49 5 0 []]) from HO.out.rowNew 49 5)
 go_loopw [28] (fun iv wr => ∃ (k q : Nat) (a : Option Addr) (cap : Nat), k ≤ n ∧ iv = .int .i64 k ∧ At s q ((rs.drop k).flatMap encRec) ∧ Own w0 D wr [resRd b s (q : Int), R1, R2, blkR bd (.cells #[.int .i64 0, .bool false, .int .i64 0, .string ⟨#[]⟩, .int .i64 0, .slice none 0 0] 86), blkR bm (.cells #[.int .i64 id, .bool true, .int .i64 cd, .string nm, .int .i64 kd, .slice a k cap] 86), rowR (.slice a k cap) 49 5 k ((rs.take k).flatMap cRc)]) (fun iv _ => n - (intOf iv).toNat)
 case atStart => exact ⟨0, e + 1, none, 0, Nat.zero_le _, rfl, H7.out, HO.out⟩
 case round =>
  obtain ⟨k, q, a, cap, hk, rfl, hat, hO⟩ := hrel
  replace HO := Hi hO
  clear hO
  by_cases hlt : k < n
  ·
   have hdl : decide ((k : Int) < (n : Int)) = true := decide_eq_true (by omega)
   have hkl : k < rs.length := by have := HN.out; omega
   have hok := HRS.out rs[k] (List.getElem_mem hkl)
   have hTK : (rs.take (k + 1)).flatMap cRc = (rs.take k).flatMap cRc ++ cRc rs[k] := by rw [List.take_succ_eq_append_getElem hkl, List.flatMap_append]; simp
   rw [List.drop_eq_getElem_cons hkl, List.flatMap_cons] at hat
   obtain ⟨hat1, hat2⟩ := hat.step
   generalize rs[k] = x at *
   generalize (rs.take k).flatMap cRc = xs at *
   obtain ⟨m, hm⟩ : ∃ y, (encRec x).length = y := ⟨_, rfl⟩
   rw [hm] at hat2
   have HOK := Hi hok
   have HA1 := Hi hat1
   have HA2 := Hi hat2
   have HM := Hi hm
   have HTK := Hi hTK
   clear hok hkl hat hat1 hat2 hm hTK
   have HC := Hi (fun (w' : World) (hO : Own w0 D w' [resRd b s (q : Int), R1, R2, blkR bd (.cells #[.int .i64 0, .bool false, .int .i64 0, .string ⟨#[]⟩, .int .i64 0, .slice none 0 0] 86), blkR bm (.cells #[.int .i64 id, .bool true, .int .i64 cd, .string nm, .int .i64 kd, .slice a k cap] 86), rowR (.slice a k cap) 49 5 k xs]) => (by have h := rrec q x HOK.out HA1.out HS.out hO 0 rfl; rw [HM.out] at h; exact h : Calls Tryz.prog 166 #[.pointer (some ⟨b, 0, none⟩)] w' (OPost w0 D [resRd b s ((q + m : Nat) : Int), R1, R2, blkR bd (.cells #[.int .i64 0, .bool false, .int .i64 0, .string ⟨#[]⟩, .int .i64 0, .slice none 0 0] 86), blkR bm (.cells #[.int .i64 id, .bool true, .int .i64 cd, .string nm, .int .i64 kd, .slice a k cap] 86), rowR (.slice a k cap) 49 5 k xs] (rcV x) w')))
   obtain ⟨rn, rk, rt, ra, ro⟩ := x
   go_wp2
   generalize hΓ : ghS w0 D (cpS [resRd b s (q : Int), R1, R2, blkR bd (.cells #[.int .i64 0, .bool false, .int .i64 0, .string ⟨#[]⟩, .int .i64 0, .slice none 0 0] 86), blkR bm (.cells #[.int .i64 id, .bool true, .int .i64 cd, .string nm, .int .i64 kd, .slice a k cap] 86), rowR (.slice a k cap) 49 5 k xs] [resRd b s ((q + m : Nat) : Int), R1, R2, blkR bd (.cells #[.int .i64 0, .bool false, .int .i64 0, .string ⟨#[]⟩, .int .i64 0, .slice none 0 0] 86), blkR bm (.cells #[.int .i64 id, .bool true, .int .i64 cd, .string nm, .int .i64 kd, .slice a k cap] 86), rowR (.slice a k cap) 49 5 k xs] 5 (cRc ⟨rn, rk, rt, ra, ro⟩) 49 (fun v' => rowR v' 49 5 (k + 1) (xs ++ cRc ⟨rn, rk, rt, ra, ro⟩))) = Γ
   have HST := Hi (show Γ.inv [] wr by rw [← hΓ]; exact cpS_start HO.out)
   have q2_5 : ∀ q : Γ.Wd, q.w.cell? ⟨bm, 5, none⟩ = some (.slice a k cap) := by rw [← hΓ]; exact cpS_cell (c := #[.int .i64 id, .bool true, .int .i64 cd, .string nm, .int .i64 kd, .slice a k cap]) (t := 86) 4 rfl rfl (by decide) 5 rfl
   have HΓ := Hi hΓ
   clear hΓ
   have ne : Nonempty Γ.Wd := ⟨⟨[], wr, HST.out⟩⟩
   refine wp_region_H Γ 7 [3, 4, 5] (by kernel_rfl) (by kernel_rfl) (by kernel_rfl) (by kernel_rfl) HST.out ?_
   simp only [List.take, List.drop]
   iterate 3 (first | (refine wpH_want (by kernel_rfl) (by kernel_rfl) rfl rfl ?_; intro K hK; go_big_quiet_op; go_big_quiet_on) | (refine wpH_is (by kernel_rfl) (by kernel_rfl) rfl _ (fun _ w _ => rfl) ?_; simp only [Act.put, l_T, l_S, l_Z]))
   refine wpH_chain 0 (by kernel_rfl) (by kernel_rfl) rfl 166 #[.pointer (some ⟨b, 0, none⟩)] (.agg #[.string rn, .int .i64 rk, .int .i64 rt, .int .i64 ra, .string ro]) (fun w => by simp [go_sem]) (fun vs w hg hvs => by
    rw [← HΓ.out] at hg ⊢
    exact cpS_call hg hvs fun ho => HC.out _ ho) ?_
   simp only [Act.put, l_T, l_S, l_Z]
   refine wpH_chainX 1 (gnth 1) (gnth_lasts _ _) (by kernel_rfl) (by kernel_rfl) (fun a' g hg hgl he => ?_) (fun d hd => ?_)
   ·
    obtain ⟨h25, _⟩ := he
    have h25' : a'.eval (.tmp 33) = .agg #[.string rn, .int .i64 rk, .int .i64 rt, .int .i64 ra, .string ro] := h25
    refine wp_of_value (v := .slice (some ⟨g.w.heap.size, 0, none⟩) 1 1) (w' := g.w.alloc (.cells #[.string rn, .int .i64 rk, .int .i64 rt, .int .i64 ra, .string ro] 49)) (run_v_ok ?_) ⟨_, rfl, ?_, ?_⟩
    ·
     simp only [List.map_toArray, List.map_cons, List.map_nil, h25']
     exact run_bsRc _ _ _ _ _ _
    ·
     rw [← HΓ.out] at hg ⊢
     exact cpS_build hg hgl
    ·
     obtain ⟨r, hr⟩ := List.length_eq_one_iff.1 hgl
     show (g.vs ++ [_])[1]? = some _
     rw [hr]; rfl
   cases hd
   simp only [List.nil_append]
   refine wpH_chainX 2 (gnth 2) (gnth_lasts _ _) (by kernel_rfl) (by kernel_rfl) (fun a' g hg hgl he => ?_) (fun d hd => ?_)
   ·
    obtain ⟨h24, h26, _⟩ := he
    rw [← HΓ.out] at hg ⊢
    exact cpS_app (.tmp 31) (.tmp 34) 50 rfl Tryz.underlying50 infoRc rfl (by decide) rfl rfl (oneR _) (by unfold maxLen; omega) (by omega) hg hgl h24 h26
   cases hd
   simp only [List.cons_append, List.nil_append]
   iterate 1 (first | (refine wpH_want (by kernel_rfl) (by kernel_rfl) rfl rfl ?_; intro K hK; go_big_quiet_op; go_big_quiet_on) | (refine wpH_is (by kernel_rfl) (by kernel_rfl) rfl _ (fun _ w _ => rfl) ?_; simp only [Act.put, l_T, l_S, l_Z]))
   refine wpH_nil (by kernel_rfl) (by simp) ?_
   rintro ⟨vs, x5⟩ hg hgl
   rw [← HΓ.out] at hg
   obtain ⟨r, s', v, hvs, hO⟩ := cpS_end hg hgl
   obtain rfl : vs = [r, s', v] := hvs
   simp only [gexAll]
   rintro u34 - u35 hu35
   obtain rfl : v = u35 := by simpa [gnth] using hu35
   simp only [List.drop]
   clear ne HST hg hgl HΓ hu35 q2_5 HC
   replace HO := Hi (show Own w0 D x5 [resRd b s ((q + m : Nat) : Int), R1, R2, blkR bd (.cells #[.int .i64 0, .bool false, .int .i64 0, .string ⟨#[]⟩, .int .i64 0, .slice none 0 0] 86), blkR bm (.cells #[.int .i64 id, .bool true, .int .i64 cd, .string nm, .int .i64 kd, .slice a k cap] 86), rowR v 49 5 (k + 1) (xs ++ cRc ⟨rn, rk, rt, ra, ro⟩)] from hO)
   clear hO
   rw [← HTK.out] at HO
   obtain ⟨va, vc, rfl⟩ := row_shape (HO.out.row 5 rfl)
   obtain ⟨vn, hvn⟩ : ∃ y, k + 1 = y := ⟨_, rfl⟩
   rw [hvn] at HO HA2 ⊢
   have HVN := Hi hvn
   clear hvn HTK
   have ⟨z4_5, y4_5⟩ : x5.cell? _ = some (.slice a k cap) ∧ _ := HO.out.cf 4 rfl 5 rfl
   obtain ⟨x41, hx41, hO⟩ := HO.out.setE 4 rfl 5 (.slice va vn vc)
   replace HO := Hi (show Own w0 D x41 [resRd b s ((q + m : Nat) : Int), R1, R2, blkR bd (.cells #[.int .i64 0, .bool false, .int .i64 0, .string ⟨#[]⟩, .int .i64 0, .slice none 0 0] 86), blkR bm (.cells #[.int .i64 id, .bool true, .int .i64 cd, .string nm, .int .i64 kd, .slice va vn vc] 86), rowR (.slice va vn vc) 49 5 vn ((rs.take vn).flatMap cRc)] from hO)
   clear hO
   go_wp2
   go_roundw
   case rel => exact ⟨vn, q + m, va, vc, by have := HVN.out; omega, by have := HVN.out; subst this; go_num, HA2.out, HO.out⟩
   case measure => simp [intOf]; omega
  ·
   obtain rfl : k = n := by omega
   have hdl : decide ((k : Int) < (k : Int)) = false := decide_eq_false (by omega)
   rw [show rs.take k = rs by rw [← HN.out, List.take_length]] at HO
   have z4_0 : wr.cell? _ = some (.int .i64 id) := HO.out.cell 4 rfl 0 rfl
   have z4_1 : wr.cell? _ = some (.bool true) := HO.out.cell 4 rfl 1 rfl
   have z4_2 : wr.cell? _ = some (.int .i64 cd) := HO.out.cell 4 rfl 2 rfl
   have z4_3 : wr.cell? _ = some (.string nm) := HO.out.cell 4 rfl 3 rfl
   have z4_4 : wr.cell? _ = some (.int .i64 kd) := HO.out.cell 4 rfl 4 rfl
   have z4_5 : wr.cell? _ = some (.slice a k cap) := HO.out.cell 4 rfl 5 rfl
   obtain ⟨x87, x93, x98, x102, x105, x107, hx87, hx93, hx98, hx102, hx105, hx107, k3_0_81, lk3_0_81, k3_1_88, lk3_1_88, k3_2_94, lk3_2_94, k3_3_99, lk3_3_99, k3_4_103, lk3_4_103, k3_5_106, lk3_5_106, hO⟩ := HO.out.steps6 3 rfl (.int .i64 id) (.bool true) (.int .i64 cd) (.string nm) (.int .i64 kd) (.slice a k cap)
   replace HO := Hi (show Own w0 D x107 [resRd b s (q : Int), R1, R2, blkR bd (.cells #[.int .i64 id, .bool true, .int .i64 cd, .string nm, .int .i64 kd, .slice a k cap] 86), blkR bm (.cells #[.int .i64 id, .bool true, .int .i64 cd, .string nm, .int .i64 kd, .slice a k cap] 86), rowR (.slice a k cap) 49 5 k (rs.flatMap cRc)] from hO)
   clear hO
   obtain ⟨z3_0, z3_1, z3_2, z3_3, z3_4, z3_5⟩ := HO.out.c6 3 rfl
   go_wp2
   refine bodyPost_ret (results_cell_row (P := Tryz.prog) rfl _ _ bd 86 _ _ _ rfl (HO.out.blk 3 rfl) Tryz.underlying86 rfl infoDs) rfl ?_
   exact ⟨_, (q : Int), rfl, HO.out.pick [0, 1, 2, 5] (by decide) (fun k R hk => by
    match k, hk with
    | 0, hk => exact ⟨0, rfl, hk⟩
    | 1, hk => exact ⟨1, rfl, hk⟩
    | 2, hk => exact ⟨2, rfl, hk⟩
    | 3, hk => exact ⟨5, rfl, hk⟩
    | (k + 4), hk => cases hk)⟩
theorem rmsg_false {w0 w : World} {D : Nat → Prop} {R1 R2 : Res} (id cd : Int) (nm : ByteArray) (kd : Int) (rs : List Rc) (n : Nat) (hn : rs.length = n) (hd : DmV ⟨id, false, cd, nm, kd, rs⟩) (ha : At s 0 (encM ⟨id, false, cd, nm, kd, rs⟩)) (hs : s.size ≤ 999990) (h : Own w0 D w [resRd b s (0 : Nat), R1, R2]) :
  Calls Tryz.prog 122 #[.pointer (some ⟨b, 0, none⟩)] w fun e w' => ∃ v q, e = .returned (.agg #[.int .i64 id, .bool false, .int .i64 cd, .string nm, .int .i64 kd, v]) ∧ Own w0 D w' [resRd b s q, R1, R2, rowR v 49 5 n (rs.flatMap cRc)] := by
 have HO := Hi h
 obtain ⟨⟨h1, h2⟩, ⟨h3, h4⟩, h5, h6, h7, h8, h9⟩ := id_dm hd
 have h1 : 0 ≤ id := h1
 have h2 : id ≤ 65535 := h2
 have h3 : 0 ≤ cd := h3
 have h4 : cd ≤ 2 := h4
 have h5 : vname nm = true := h5
 have h6 : kd = 1 ∨ kd = 2 := h6
 have h7 : rs.length ≤ 8 := h7
 have HV := Hi h5
 have HRS := Hi h8
 have HN := Hi hn
 have HS := Hi hs
 have hk : 0 ≤ kd ∧ kd < 256 := by rcases h6 with h | h <;> omega
 obtain ⟨hk0, hk1⟩ := hk
 have hnn : n ≤ 8 := by omega
 unfold encM encHd at ha
 dsimp only at ha
 rw [hn] at ha
 obtain ⟨ha, ha7⟩ := ha.step
 obtain ⟨ha, ha6⟩ := ha.step
 obtain ⟨ha, ha5⟩ := ha.step
 obtain ⟨ha, ha4⟩ := ha.step
 obtain ⟨ha, ha3⟩ := ha.step
 obtain ⟨ha1, ha2⟩ := ha.step
 simp only [List.length_append, beN_len, Nat.zero_add] at ha2 ha3 ha4 ha5 ha6 ha7
 obtain ⟨e, he⟩ : ∃ y, 2 + 1 + 1 + 1 + (encNm nm).length = y := ⟨_, rfl⟩
 rw [he] at ha6 ha7
 have HEE := Hi he
 have H1 := Hi ha1
 have H2 := Hi (show At s 2 (beN 1 0) from ha2)
 have H3 := Hi ha3
 have H4 := Hi ha4
 have H5 := Hi ha5
 have H6 := Hi ha6
 have H7 := Hi ha7
 clear h hn hd hs h5 h6 h7 h8 h9 ha ha1 ha2 ha3 ha4 ha5 ha6 ha7 he
 obtain ⟨x1, hx1, bd, hbd, hO⟩ := HO.out.allocE (.cells #[.int .i64 0, .bool false, .int .i64 0, .string ⟨#[]⟩, .int .i64 0, .slice none 0 0] 86)
 replace HO := Hi (show Own w0 D x1 [resRd b s (0 : Nat), R1, R2, blkR bd (.cells #[.int .i64 0, .bool false, .int .i64 0, .string ⟨#[]⟩, .int .i64 0, .slice none 0 0] 86)] from hO)
 clear hO
 obtain ⟨z3_0, z3_1, z3_2, z3_3, z3_4, z3_5⟩ := HO.out.c6 3 rfl
 obtain ⟨x2, hx2, bm, hbm, hO⟩ := HO.out.allocE (.cells #[.int .i64 0, .bool false, .int .i64 0, .string ⟨#[]⟩, .int .i64 0, .slice none 0 0] 86)
 replace HO := Hi (show Own _ _ _ [_, _, _, _, blkR bm (.cells #[.int .i64 0, .bool false, .int .i64 0, .string ⟨#[]⟩, .int .i64 0, .slice none 0 0] 86)] from hO)
 clear hO
 obtain ⟨z4_0, z4_1, z4_2, z4_3, z4_4, z4_5⟩ := HO.out.c6 4 rfl
 go_enter Tryz.func122, Tryz.ntmps122
 go_wp2_with fail
 refine (rnum2 0 id h1 (by omega) H1.out HS.out HO.out 0 rfl).mono ?_
 rintro e x3 ⟨rfl, hO, -⟩
 replace HO := Hi (show Own _ _ _ [resRd b s ((0 + 2 : Nat) : Int), _, _, _, _] from hO)
 clear hO
 clear hx1 hbd z3_0 z3_1 z3_2 z3_3 z3_4 z3_5 hx2 hbm z4_0 z4_1 z4_2 z4_3 z4_4 z4_5
 obtain ⟨z4_0, z4_1, z4_2, z4_3, z4_4, -⟩ := HO.out.c6 4 rfl
 have z4_5 : x3.cell? _ = some (.slice none 0 0) := HO.out.cell 4 rfl 5 rfl
 have y4_0 := HO.out.frz 4 rfl 0
 obtain ⟨x4, hx4, hO⟩ := HO.out.setE 4 rfl 0 (.int .i64 id)
 replace HO := Hi (show Own _ _ _ [_, _, _, _, blkR bm (.cells #[.int .i64 id, .bool false, .int .i64 0, .string ⟨#[]⟩, .int .i64 0, .slice none 0 0] 86)] from hO)
 clear hO
 obtain ⟨z4_0t, z4_1t, z4_2t, z4_3t, z4_4t, z4_5t⟩ := HO.out.c6 4 rfl
 replace HO := Hi (show Own w0 D x4 [resRd b s ((2 : Nat) : Int), R1, R2, blkR bd (.cells #[.int .i64 0, .bool false, .int .i64 0, .string ⟨#[]⟩, .int .i64 0, .slice none 0 0] 86), blkR bm (.cells #[.int .i64 id, .bool false, .int .i64 0, .string ⟨#[]⟩, .int .i64 0, .slice none 0 0] 86)] from HO.out)
 go_wp2_with fail
 refine (rnum1 2 0 (by omega) (by omega) H2.out HS.out HO.out 0 rfl).mono ?_
 rintro e x5 ⟨rfl, hO, -⟩
 replace HO := Hi (show Own _ _ _ [resRd b s ((2 + 1 : Nat) : Int), _, _, _, _] from hO)
 clear hO
 clear z4_0 z4_1 z4_2 z4_3 z4_4 z4_5 y4_0 hx4 z4_0t z4_1t z4_2t z4_3t z4_4t z4_5t
 obtain ⟨z4_0, z4_1, z4_2, z4_3, z4_4, -⟩ := HO.out.c6 4 rfl
 have z4_5 : x5.cell? _ = some (.slice none 0 0) := HO.out.cell 4 rfl 5 rfl
 have y4_1 := HO.out.frz 4 rfl 1
 obtain ⟨x6, hx6, hO⟩ := HO.out.setE 4 rfl 1 (.bool false)
 replace HO := Hi hO
 clear hO
 obtain ⟨z4_0t, z4_1t, z4_2t, z4_3t, z4_4t, z4_5t⟩ := HO.out.c6 4 rfl
 go_wp2_with fail
 refine (rnum1 (2 + 1) cd h3 (by omega) H3.out HS.out HO.out 0 rfl).mono ?_
 rintro e x7 ⟨rfl, hO, -⟩
 replace HO := Hi (show Own _ _ _ [resRd b s ((2 + 1 + 1 : Nat) : Int), _, _, _, _] from hO)
 clear hO
 clear z4_0 z4_1 z4_2 z4_3 z4_4 z4_5 y4_1 hx6 z4_0t z4_1t z4_2t z4_3t z4_4t z4_5t
 obtain ⟨z4_0, z4_1, z4_2, z4_3, z4_4, -⟩ := HO.out.c6 4 rfl
 have z4_5 : x7.cell? _ = some (.slice none 0 0) := HO.out.cell 4 rfl 5 rfl
 have y4_2 := HO.out.frz 4 rfl 2
 obtain ⟨x8, hx8, hO⟩ := HO.out.setE 4 rfl 2 (.int .i64 cd)
 replace HO := Hi (show Own _ _ _ [_, _, _, _, blkR bm (.cells #[.int .i64 id, .bool false, .int .i64 cd, .string ⟨#[]⟩, .int .i64 0, .slice none 0 0] 86)] from hO)
 clear hO
 obtain ⟨z4_0t, z4_1t, z4_2t, z4_3t, z4_4t, z4_5t⟩ := HO.out.c6 4 rfl
 go_wp2_with fail
 refine (rnum1 (2 + 1 + 1) kd hk0 hk1 H4.out HS.out HO.out 0 rfl).mono ?_
 rintro e x9 ⟨rfl, hO, -⟩
 replace HO := Hi (show Own _ _ _ [resRd b s ((2 + 1 + 1 + 1 : Nat) : Int), _, _, _, _] from hO)
 clear hO
 clear z4_0 z4_1 z4_2 z4_3 z4_4 z4_5 y4_2 hx8 z4_0t z4_1t z4_2t z4_3t z4_4t z4_5t
 obtain ⟨z4_0, z4_1, z4_2, z4_3, z4_4, -⟩ := HO.out.c6 4 rfl
 have z4_5 : x9.cell? _ = some (.slice none 0 0) := HO.out.cell 4 rfl 5 rfl
 have y4_4 := HO.out.frz 4 rfl 4
 obtain ⟨x10, hx10, hO⟩ := HO.out.setE 4 rfl 4 (.int .i64 kd)
 replace HO := Hi (show Own _ _ _ [_, _, _, _, blkR bm (.cells #[.int .i64 id, .bool false, .int .i64 cd, .string ⟨#[]⟩, .int .i64 kd, .slice none 0 0] 86)] from hO)
 clear hO
 obtain ⟨z4_0t, z4_1t, z4_2t, z4_3t, z4_4t, z4_5t⟩ := HO.out.c6 4 rfl
 go_wp2_with fail
 refine (rname (2 + 1 + 1 + 1) nm HV.out H5.out HS.out HO.out 0 rfl).mono ?_
 rintro e x11 ⟨rfl, hO, -⟩
 replace HO := Hi (show Own _ _ _ [resRd b s ((2 + 1 + 1 + 1 + (encNm nm).length : Nat) : Int), _, _, _, _] from hO)
 clear hO
 clear z4_0 z4_1 z4_2 z4_3 z4_4 z4_5 y4_4 hx10 z4_0t z4_1t z4_2t z4_3t z4_4t z4_5t
 rw [HEE.out] at HO
 have z4_0 : x11.cell? _ = some (.int .i64 id) := HO.out.cell 4 rfl 0 rfl
 have z4_1 : x11.cell? _ = some (.bool false) := HO.out.cell 4 rfl 1 rfl
 have z4_2 : x11.cell? _ = some (.int .i64 cd) := HO.out.cell 4 rfl 2 rfl
 have z4_3 : x11.cell? _ = some (.string ⟨#[]⟩) := HO.out.cell 4 rfl 3 rfl
 have z4_4 : x11.cell? _ = some (.int .i64 kd) := HO.out.cell 4 rfl 4 rfl
 have z4_5 : x11.cell? _ = some (.slice none 0 0) := HO.out.cell 4 rfl 5 rfl
 have y4_3 := HO.out.frz 4 rfl 3
 obtain ⟨x12, hx12, hO⟩ := HO.out.setE 4 rfl 3 (.string nm)
 replace HO := Hi (show Own w0 D x12 [resRd b s (e : Int), R1, R2, blkR bd (.cells #[.int .i64 0, .bool false, .int .i64 0, .string ⟨#[]⟩, .int .i64 0, .slice none 0 0] 86), blkR bm (.cells #[.int .i64 id, .bool false, .int .i64 cd, .string nm, .int .i64 kd, .slice none 0 0] 86)] from hO)
 clear hO
 obtain ⟨z4_0t, z4_1t, z4_2t, z4_3t, z4_4t, z4_5t⟩ := HO.out.c6 4 rfl
 go_wp2_with fail
 refine (rnum1 e (n : Int) (by omega) (by omega) H6.out HS.out HO.out 0 rfl).mono ?_
 rintro e x13 ⟨rfl, hO, -⟩
 replace HO := Hi (show Own _ _ _ [resRd b s ((e + 1 : Nat) : Int), _, _, _, _] from hO)
 clear hO
 clear z4_0 z4_1 z4_2 z4_3 z4_4 z4_5 y4_3 hx12 z4_0t z4_1t z4_2t z4_3t z4_4t z4_5t
 go_wp2
 have HO := Hi (show Own w0 D x13 ([resRd b s ((e + 1 : Nat) : Int), R1, R2, blkR bd (.cells #[.int .i64 0, .bool false, .int .i64 0, .string ⟨#[]⟩, .int .i64 0, .slice none 0 0] 86), blkR bm (.cells #[.int .i64 id, .bool false, .int .i64 cd, .string nm, .int .i64 kd, .slice none 0 0] 86)] ++ [rowR (.slice none 0 0) 49 5 0 []]) from HO.out.rowNew 49 5)
 go_loopw [28] (fun iv wr => ∃ (k q : Nat) (a : Option Addr) (cap : Nat), k ≤ n ∧ iv = .int .i64 k ∧ At s q ((rs.drop k).flatMap encRec) ∧ Own w0 D wr [resRd b s (q : Int), R1, R2, blkR bd (.cells #[.int .i64 0, .bool false, .int .i64 0, .string ⟨#[]⟩, .int .i64 0, .slice none 0 0] 86), blkR bm (.cells #[.int .i64 id, .bool false, .int .i64 cd, .string nm, .int .i64 kd, .slice a k cap] 86), rowR (.slice a k cap) 49 5 k ((rs.take k).flatMap cRc)]) (fun iv _ => n - (intOf iv).toNat)
 case atStart => exact ⟨0, e + 1, none, 0, Nat.zero_le _, rfl, H7.out, HO.out⟩
 case round =>
  obtain ⟨k, q, a, cap, hk, rfl, hat, hO⟩ := hrel
  replace HO := Hi hO
  clear hO
  by_cases hlt : k < n
  ·
   have hdl : decide ((k : Int) < (n : Int)) = true := decide_eq_true (by omega)
   have hkl : k < rs.length := by have := HN.out; omega
   have hok := HRS.out rs[k] (List.getElem_mem hkl)
   have hTK : (rs.take (k + 1)).flatMap cRc = (rs.take k).flatMap cRc ++ cRc rs[k] := by rw [List.take_succ_eq_append_getElem hkl, List.flatMap_append]; simp
   rw [List.drop_eq_getElem_cons hkl, List.flatMap_cons] at hat
   obtain ⟨hat1, hat2⟩ := hat.step
   generalize rs[k] = x at *
   generalize (rs.take k).flatMap cRc = xs at *
   obtain ⟨m, hm⟩ : ∃ y, (encRec x).length = y := ⟨_, rfl⟩
   rw [hm] at hat2
   have HOK := Hi hok
   have HA1 := Hi hat1
   have HA2 := Hi hat2
   have HM := Hi hm
   have HTK := Hi hTK
   clear hok hkl hat hat1 hat2 hm hTK
   have HC := Hi (fun (w' : World) (hO : Own w0 D w' [resRd b s (q : Int), R1, R2, blkR bd (.cells #[.int .i64 0, .bool false, .int .i64 0, .string ⟨#[]⟩, .int .i64 0, .slice none 0 0] 86), blkR bm (.cells #[.int .i64 id, .bool false, .int .i64 cd, .string nm, .int .i64 kd, .slice a k cap] 86), rowR (.slice a k cap) 49 5 k xs]) => (by have h := rrec q x HOK.out HA1.out HS.out hO 0 rfl; rw [HM.out] at h; exact h : Calls Tryz.prog 166 #[.pointer (some ⟨b, 0, none⟩)] w' (OPost w0 D [resRd b s ((q + m : Nat) : Int), R1, R2, blkR bd (.cells #[.int .i64 0, .bool false, .int .i64 0, .string ⟨#[]⟩, .int .i64 0, .slice none 0 0] 86), blkR bm (.cells #[.int .i64 id, .bool false, .int .i64 cd, .string nm, .int .i64 kd, .slice a k cap] 86), rowR (.slice a k cap) 49 5 k xs] (rcV x) w')))
   obtain ⟨rn, rk, rt, ra, ro⟩ := x
   go_wp2
   generalize hΓ : ghS w0 D (cpS [resRd b s (q : Int), R1, R2, blkR bd (.cells #[.int .i64 0, .bool false, .int .i64 0, .string ⟨#[]⟩, .int .i64 0, .slice none 0 0] 86), blkR bm (.cells #[.int .i64 id, .bool false, .int .i64 cd, .string nm, .int .i64 kd, .slice a k cap] 86), rowR (.slice a k cap) 49 5 k xs] [resRd b s ((q + m : Nat) : Int), R1, R2, blkR bd (.cells #[.int .i64 0, .bool false, .int .i64 0, .string ⟨#[]⟩, .int .i64 0, .slice none 0 0] 86), blkR bm (.cells #[.int .i64 id, .bool false, .int .i64 cd, .string nm, .int .i64 kd, .slice a k cap] 86), rowR (.slice a k cap) 49 5 k xs] 5 (cRc ⟨rn, rk, rt, ra, ro⟩) 49 (fun v' => rowR v' 49 5 (k + 1) (xs ++ cRc ⟨rn, rk, rt, ra, ro⟩))) = Γ
   have HST := Hi (show Γ.inv [] wr by rw [← hΓ]; exact cpS_start HO.out)
   have q2_5 : ∀ q : Γ.Wd, q.w.cell? ⟨bm, 5, none⟩ = some (.slice a k cap) := by rw [← hΓ]; exact cpS_cell (c := #[.int .i64 id, .bool false, .int .i64 cd, .string nm, .int .i64 kd, .slice a k cap]) (t := 86) 4 rfl rfl (by decide) 5 rfl
   have HΓ := Hi hΓ
   clear hΓ
   have ne : Nonempty Γ.Wd := ⟨⟨[], wr, HST.out⟩⟩
   refine wp_region_H Γ 7 [3, 4, 5] (by kernel_rfl) (by kernel_rfl) (by kernel_rfl) (by kernel_rfl) HST.out ?_
   simp only [List.take, List.drop]
   iterate 3 (first | (refine wpH_want (by kernel_rfl) (by kernel_rfl) rfl rfl ?_; intro K hK; go_big_quiet_op; go_big_quiet_on) | (refine wpH_is (by kernel_rfl) (by kernel_rfl) rfl _ (fun _ w _ => rfl) ?_; simp only [Act.put, l_T, l_S, l_Z]))
   refine wpH_chain 0 (by kernel_rfl) (by kernel_rfl) rfl 166 #[.pointer (some ⟨b, 0, none⟩)] (.agg #[.string rn, .int .i64 rk, .int .i64 rt, .int .i64 ra, .string ro]) (fun w => by simp [go_sem]) (fun vs w hg hvs => by
    rw [← HΓ.out] at hg ⊢
    exact cpS_call hg hvs fun ho => HC.out _ ho) ?_
   simp only [Act.put, l_T, l_S, l_Z]
   refine wpH_chainX 1 (gnth 1) (gnth_lasts _ _) (by kernel_rfl) (by kernel_rfl) (fun a' g hg hgl he => ?_) (fun d hd => ?_)
   ·
    obtain ⟨h25, _⟩ := he
    have h25' : a'.eval (.tmp 33) = .agg #[.string rn, .int .i64 rk, .int .i64 rt, .int .i64 ra, .string ro] := h25
    refine wp_of_value (v := .slice (some ⟨g.w.heap.size, 0, none⟩) 1 1) (w' := g.w.alloc (.cells #[.string rn, .int .i64 rk, .int .i64 rt, .int .i64 ra, .string ro] 49)) (run_v_ok ?_) ⟨_, rfl, ?_, ?_⟩
    ·
     simp only [List.map_toArray, List.map_cons, List.map_nil, h25']
     exact run_bsRc _ _ _ _ _ _
    ·
     rw [← HΓ.out] at hg ⊢
     exact cpS_build hg hgl
    ·
     obtain ⟨r, hr⟩ := List.length_eq_one_iff.1 hgl
     show (g.vs ++ [_])[1]? = some _
     rw [hr]; rfl
   cases hd
   simp only [List.nil_append]
   refine wpH_chainX 2 (gnth 2) (gnth_lasts _ _) (by kernel_rfl) (by kernel_rfl) (fun a' g hg hgl he => ?_) (fun d hd => ?_)
   ·
    obtain ⟨h24, h26, _⟩ := he
    rw [← HΓ.out] at hg ⊢
    exact cpS_app (.tmp 31) (.tmp 34) 50 rfl Tryz.underlying50 infoRc rfl (by decide) rfl rfl (oneR _) (by unfold maxLen; omega) (by omega) hg hgl h24 h26
   cases hd
   simp only [List.cons_append, List.nil_append]
   iterate 1 (first | (refine wpH_want (by kernel_rfl) (by kernel_rfl) rfl rfl ?_; intro K hK; go_big_quiet_op; go_big_quiet_on) | (refine wpH_is (by kernel_rfl) (by kernel_rfl) rfl _ (fun _ w _ => rfl) ?_; simp only [Act.put, l_T, l_S, l_Z]))
   refine wpH_nil (by kernel_rfl) (by simp) ?_
   rintro ⟨vs, x5⟩ hg hgl
   rw [← HΓ.out] at hg
   obtain ⟨r, s', v, hvs, hO⟩ := cpS_end hg hgl
   obtain rfl : vs = [r, s', v] := hvs
   simp only [gexAll]
   rintro u34 - u35 hu35
   obtain rfl : v = u35 := by simpa [gnth] using hu35
   simp only [List.drop]
   clear ne HST hg hgl HΓ hu35 q2_5 HC
   replace HO := Hi (show Own w0 D x5 [resRd b s ((q + m : Nat) : Int), R1, R2, blkR bd (.cells #[.int .i64 0, .bool false, .int .i64 0, .string ⟨#[]⟩, .int .i64 0, .slice none 0 0] 86), blkR bm (.cells #[.int .i64 id, .bool false, .int .i64 cd, .string nm, .int .i64 kd, .slice a k cap] 86), rowR v 49 5 (k + 1) (xs ++ cRc ⟨rn, rk, rt, ra, ro⟩)] from hO)
   clear hO
   rw [← HTK.out] at HO
   obtain ⟨va, vc, rfl⟩ := row_shape (HO.out.row 5 rfl)
   obtain ⟨vn, hvn⟩ : ∃ y, k + 1 = y := ⟨_, rfl⟩
   rw [hvn] at HO HA2 ⊢
   have HVN := Hi hvn
   clear hvn HTK
   have ⟨z4_5, y4_5⟩ : x5.cell? _ = some (.slice a k cap) ∧ _ := HO.out.cf 4 rfl 5 rfl
   obtain ⟨x41, hx41, hO⟩ := HO.out.setE 4 rfl 5 (.slice va vn vc)
   replace HO := Hi (show Own w0 D x41 [resRd b s ((q + m : Nat) : Int), R1, R2, blkR bd (.cells #[.int .i64 0, .bool false, .int .i64 0, .string ⟨#[]⟩, .int .i64 0, .slice none 0 0] 86), blkR bm (.cells #[.int .i64 id, .bool false, .int .i64 cd, .string nm, .int .i64 kd, .slice va vn vc] 86), rowR (.slice va vn vc) 49 5 vn ((rs.take vn).flatMap cRc)] from hO)
   clear hO
   go_wp2
   go_roundw
   case rel => exact ⟨vn, q + m, va, vc, by have := HVN.out; omega, by have := HVN.out; subst this; go_num, HA2.out, HO.out⟩
   case measure => simp [intOf]; omega
  ·
   obtain rfl : k = n := by omega
   have hdl : decide ((k : Int) < (k : Int)) = false := decide_eq_false (by omega)
   rw [show rs.take k = rs by rw [← HN.out, List.take_length]] at HO
   have z4_0 : wr.cell? _ = some (.int .i64 id) := HO.out.cell 4 rfl 0 rfl
   have z4_1 : wr.cell? _ = some (.bool false) := HO.out.cell 4 rfl 1 rfl
   have z4_2 : wr.cell? _ = some (.int .i64 cd) := HO.out.cell 4 rfl 2 rfl
   have z4_3 : wr.cell? _ = some (.string nm) := HO.out.cell 4 rfl 3 rfl
   have z4_4 : wr.cell? _ = some (.int .i64 kd) := HO.out.cell 4 rfl 4 rfl
   have z4_5 : wr.cell? _ = some (.slice a k cap) := HO.out.cell 4 rfl 5 rfl
   obtain ⟨x87, x93, x98, x102, x105, x107, hx87, hx93, hx98, hx102, hx105, hx107, k3_0_81, lk3_0_81, k3_1_88, lk3_1_88, k3_2_94, lk3_2_94, k3_3_99, lk3_3_99, k3_4_103, lk3_4_103, k3_5_106, lk3_5_106, hO⟩ := HO.out.steps6 3 rfl (.int .i64 id) (.bool false) (.int .i64 cd) (.string nm) (.int .i64 kd) (.slice a k cap)
   replace HO := Hi (show Own w0 D x107 [resRd b s (q : Int), R1, R2, blkR bd (.cells #[.int .i64 id, .bool false, .int .i64 cd, .string nm, .int .i64 kd, .slice a k cap] 86), blkR bm (.cells #[.int .i64 id, .bool false, .int .i64 cd, .string nm, .int .i64 kd, .slice a k cap] 86), rowR (.slice a k cap) 49 5 k (rs.flatMap cRc)] from hO)
   clear hO
   obtain ⟨z3_0, z3_1, z3_2, z3_3, z3_4, z3_5⟩ := HO.out.c6 3 rfl
   go_wp2
   refine bodyPost_ret (results_cell_row (P := Tryz.prog) rfl _ _ bd 86 _ _ _ rfl (HO.out.blk 3 rfl) Tryz.underlying86 rfl infoDs) rfl ?_
   exact ⟨_, (q : Int), rfl, HO.out.pick [0, 1, 2, 5] (by decide) (fun k R hk => by
    match k, hk with
    | 0, hk => exact ⟨0, rfl, hk⟩
    | 1, hk => exact ⟨1, rfl, hk⟩
    | 2, hk => exact ⟨2, rfl, hk⟩
    | 3, hk => exact ⟨5, rfl, hk⟩
    | (k + 4), hk => cases hk)⟩
theorem results_cell_cell {fn : Func} {p q : Tmp} {ty ty2 : TypeId} (h : fn.results = #[.cell p ty, .cell q ty2]) (tmps : Array Value) (P : Program) (w : World) (g : Nat) (t : TypeId) (cs : Array Value) (fr : Nat × Nat) (d : TypeDesc)
  (hp : tmps.getD p undef = .pointer (some ⟨g, 0, none⟩)) (hg : w.heap[g]? = some (.cells cs t fr))
  (hu : P.underlying ty = some d) (hd : (match d with | .struct _ | .array _ _ => true | _ => false) = true) (hi : (P.info? ty).map (·.size) = some cs.size)
  {u : Value} {a2 : Addr} (hq : tmps.getD q undef = .pointer (some a2)) (hl : (loadVar ty2 a2).run P w = .ok u w) :
  (results fn tmps).run P w = .ok (.tuple #[.agg cs, u]) w := by
 have hp' : tmps[p]?.getD undef = .pointer (some ⟨g, 0, none⟩) := by simpa using hp
 have hq' : tmps[q]?.getD undef = .pointer (some a2) := by simpa using hq
 simp only [results, h]
 simp [Sem.run_bind, Result.andThen, hp', hq', asAddr, run_loadVar_row w g t ty cs fr d hg hu (by revert hd; cases d <;> exact id) hi, hl]
theorem idle (p q : Addr) (w : World) :
  CallsD Tryz.prog 121 #[.pointer (some p), .pointer (some q)] .returning w fun e u' w' => e = .returned (.tuple #[]) ∧ u' = .returning ∧ w' = w := by
 refine callsD_of_wpS Tryz.func121 rfl fun c₀ cs hu => ?_
 apply wpS_seq
 apply wpS_region
 simp [wpOpsS, go_sem, recoverD, hu, Tryz.ntmps121, Exit.thenS]
 refine wpS_cond (t := false) (by simp [Act.eval, Array.replicate]) ?_
 simp only [Bool.false_eq_true, if_false]
 refine wpS_of_wp (wp_skip ?_)
 cases c₀
 simp_all [bodyPostS, results, Tryz.results121]
theorem decode_true {w : World} (id cd : Int) (nm : ByteArray) (kd : Int) (rs : List Rc) (n : Nat) (hn : rs.length = n) (hd : DmV ⟨id, true, cd, nm, kd, rs⟩) (ha : s = ⟨(encM ⟨id, true, cd, nm, kd, rs⟩).toArray⟩) (hs : s.size ≤ 999990) :
  Calls Tryz.prog 69 #[.string s] w fun e w' => ∃ v, e = .returned (.tuple #[.agg #[.int .i64 id, .bool true, .int .i64 cd, .string nm, .int .i64 kd, v], .int .i64 0]) ∧ Own w none0 w' [rowR v 49 5 n (rs.flatMap cRc)] := by
 have HO := Hi (Own.nil w none0)
 have HN := Hi hn
 have HD := Hi hd
 have HS := Hi hs
 have HA := Hi (show At s 0 (encM ⟨id, true, cd, nm, kd, rs⟩) from ⟨[], by rw [ha]; simp⟩)
 have HQ := Hi ha
 clear hn hd hs ha
 have hmf : ∀ (fn : Fn) (first cap : Array Value) (w : World), (Instr.makeFunc fn first cap).run Tryz.prog w = .ok (.func fn first cap) w := fun _ _ _ _ => rfl
 obtain ⟨x1, hx1, bd, hbd, hO⟩ := HO.out.allocE (.cells #[.int .i64 0, .bool false, .int .i64 0, .string ⟨#[]⟩, .int .i64 0, .slice none 0 0] 86)
 replace HO := Hi (show Own w none0 x1 [blkR bd (.cells #[.int .i64 0, .bool false, .int .i64 0, .string ⟨#[]⟩, .int .i64 0, .slice none 0 0] 86)] from hO)
 clear hO
 obtain ⟨z0_0, z0_1, z0_2, z0_3, z0_4, z0_5⟩ := HO.out.c6 0 rfl
 obtain ⟨x2, hx2, be, hbe, hO⟩ := HO.out.allocE (.cells #[.int .i64 0] 24)
 replace HO := Hi (show Own _ _ _ [_, blkR be (.cells #[.int .i64 0] 24)] from hO)
 clear hO
 have z1_0 : x2.cell? _ = some (.int .i64 0) := HO.out.cell 1 rfl 0 rfl
 obtain ⟨x3, hx3, br, hbr, hO⟩ := HO.out.allocE (.cells #[.string ⟨#[]⟩, .int .i64 0] 224)
 replace HO := Hi (show Own _ _ _ [_, _, blkR br (.cells #[.string ⟨#[]⟩, .int .i64 0] 224)] from hO)
 clear hO
 obtain ⟨z2_0, z2_1⟩ := HO.out.c2 2 rfl
 obtain ⟨x6, x8, hx6, hx8, k2_0_4, lk2_0_4, k2_1_7, lk2_1_7, hO⟩ := HO.out.steps2 2 rfl (.string s) (.int .i64 0)
 replace HO := Hi (show Own _ _ _ [_, _, blkR br (.cells #[.string s, .int .i64 0] 224)] from hO)
 clear hO
 obtain ⟨z2_0t, z2_1t⟩ := HO.out.c2 2 rfl
 go_enter_defers Tryz.func69, Tryz.ntmps69
 go_wp2_with fail
 have hO := Own.rot (L := [blkR bd (.cells #[.int .i64 0, .bool false, .int .i64 0, .string ⟨#[]⟩, .int .i64 0, .slice none 0 0] 86), blkR be (.cells #[.int .i64 0] 24)]) (L' := [blkR br (.cells #[.string s, .int .i64 0] 224)]) HO.out
 refine (rmsg_true id cd nm kd rs n HN.out HD.out HA.out HS.out hO).mono ?_
 clear hO
 rintro e x90 ⟨v, q, rfl, hO⟩
 obtain ⟨a, cap, rfl⟩ := row_shape (Own.row hO 3 rfl)
 replace HO := Hi (show Own _ _ _ [resRd br s q, blkR bd (.cells #[.int .i64 0, .bool false, .int .i64 0, .string ⟨#[]⟩, .int .i64 0, .slice none 0 0] 86), blkR be (.cells #[.int .i64 0] 24), rowR (.slice a n cap) 49 5 n (rs.flatMap cRc)] from hO)
 clear hO
 clear hx1 hbd z0_0 z0_1 z0_2 z0_3 z0_4 z0_5 hx2 hbe z1_0 hx3 hbr z2_0 z2_1 k2_0_4 lk2_0_4 hx6 k2_1_7 lk2_1_7 hx8 z2_0t z2_1t
 obtain ⟨x15, x21, x26, x30, x33, x35, hx15, hx21, hx26, hx30, hx33, hx35, k1_0_9, lk1_0_9, k1_1_16, lk1_1_16, k1_2_22, lk1_2_22, k1_3_27, lk1_3_27, k1_4_31, lk1_4_31, k1_5_34, lk1_5_34, hO⟩ := HO.out.steps6 1 rfl (.int .i64 id) (.bool true) (.int .i64 cd) (.string nm) (.int .i64 kd) (.slice a n cap)
 replace HO := Hi (show Own _ _ _ [_, blkR bd (.cells #[.int .i64 id, .bool true, .int .i64 cd, .string nm, .int .i64 kd, .slice a n cap] 86), _, _] from hO)
 clear hO
 obtain ⟨z1_0, z1_1, z1_2, z1_3, z1_4, z1_5⟩ := HO.out.c6 1 rfl
 go_wp2_with fail
 refine (o_still HO.out (encode_ok _ (HO.out.row 3 rfl) HN.out HD.out)).mono ?_
 rintro e x36 ⟨rfl, hO, -⟩
 replace HO := Hi hO
 clear hO
 clear k1_0_9 lk1_0_9 hx15 k1_1_16 lk1_1_16 hx21 k1_2_22 lk1_2_22 hx26 k1_3_27 lk1_3_27 hx30 k1_4_31 lk1_4_31 hx33 k1_5_34 lk1_5_34 hx35 z1_0 z1_1 z1_2 z1_3 z1_4 z1_5
 rw [← HQ.out]
 obtain ⟨z1_0, z1_1, z1_2, z1_3, z1_4, z1_5⟩ := HO.out.c6 1 rfl
 have z2_0 : x36.cell? _ = some (.int .i64 0) := HO.out.cell 2 rfl 0 rfl
 obtain ⟨x43, x49, x54, x58, x61, x63, hx43, hx49, hx54, hx58, hx61, hx63, k1_0_37, lk1_0_37, k1_1_44, lk1_1_44, k1_2_50, lk1_2_50, k1_3_55, lk1_3_55, k1_4_59, lk1_4_59, k1_5_62, lk1_5_62, hO⟩ := HO.out.steps6 1 rfl (.int .i64 id) (.bool true) (.int .i64 cd) (.string nm) (.int .i64 kd) (.slice a n cap)
 replace HO := Hi hO
 clear hO
 obtain ⟨z1_0t, z1_1t, z1_2t, z1_3t, z1_4t, z1_5t⟩ := HO.out.c6 1 rfl
 have ⟨z2_0t, y2_0⟩ : x63.cell? _ = some (.int .i64 0) ∧ _ := HO.out.cf 2 rfl 0 rfl
 obtain ⟨x64, hx64, hO⟩ := HO.out.setE 2 rfl 0 (.int .i64 0)
 replace HO := Hi hO
 clear hO
 go_wp2
 refine leaves_cons (f := 121) (args := #[.pointer (some ⟨bd, 0, none⟩), .pointer (some ⟨be, 0, none⟩)]) (by simp) (by simp [go_sem]) ?_
 refine (idle _ _ _).mono ?_
 rintro e u' w'' ⟨rfl, rfl, rfl⟩
 have hce : w''.cell? _ = some (.int .i64 0) := HO.out.cell 2 rfl 0 rfl
 refine ⟨_, results_cell_cell rfl _ _ _ bd 86 _ _ _ rfl (HO.out.blk 1 rfl) Tryz.underlying86 rfl infoDs (a2 := ⟨be, 0, none⟩) rfl (by simp [go_sem, hce]), _, rfl, HO.out.drop 3⟩
theorem decode_false {w : World} (id cd : Int) (nm : ByteArray) (kd : Int) (rs : List Rc) (n : Nat) (hn : rs.length = n) (hd : DmV ⟨id, false, cd, nm, kd, rs⟩) (ha : s = ⟨(encM ⟨id, false, cd, nm, kd, rs⟩).toArray⟩) (hs : s.size ≤ 999990) :
  Calls Tryz.prog 69 #[.string s] w fun e w' => ∃ v, e = .returned (.tuple #[.agg #[.int .i64 id, .bool false, .int .i64 cd, .string nm, .int .i64 kd, v], .int .i64 0]) ∧ Own w none0 w' [rowR v 49 5 n (rs.flatMap cRc)] := by
 have HO := Hi (Own.nil w none0)
 have HN := Hi hn
 have HD := Hi hd
 have HS := Hi hs
 have HA := Hi (show At s 0 (encM ⟨id, false, cd, nm, kd, rs⟩) from ⟨[], by rw [ha]; simp⟩)
 have HQ := Hi ha
 clear hn hd hs ha
 have hmf : ∀ (fn : Fn) (first cap : Array Value) (w : World), (Instr.makeFunc fn first cap).run Tryz.prog w = .ok (.func fn first cap) w := fun _ _ _ _ => rfl
 obtain ⟨x1, hx1, bd, hbd, hO⟩ := HO.out.allocE (.cells #[.int .i64 0, .bool false, .int .i64 0, .string ⟨#[]⟩, .int .i64 0, .slice none 0 0] 86)
 replace HO := Hi (show Own w none0 x1 [blkR bd (.cells #[.int .i64 0, .bool false, .int .i64 0, .string ⟨#[]⟩, .int .i64 0, .slice none 0 0] 86)] from hO)
 clear hO
 obtain ⟨z0_0, z0_1, z0_2, z0_3, z0_4, z0_5⟩ := HO.out.c6 0 rfl
 obtain ⟨x2, hx2, be, hbe, hO⟩ := HO.out.allocE (.cells #[.int .i64 0] 24)
 replace HO := Hi (show Own _ _ _ [_, blkR be (.cells #[.int .i64 0] 24)] from hO)
 clear hO
 have z1_0 : x2.cell? _ = some (.int .i64 0) := HO.out.cell 1 rfl 0 rfl
 obtain ⟨x3, hx3, br, hbr, hO⟩ := HO.out.allocE (.cells #[.string ⟨#[]⟩, .int .i64 0] 224)
 replace HO := Hi (show Own _ _ _ [_, _, blkR br (.cells #[.string ⟨#[]⟩, .int .i64 0] 224)] from hO)
 clear hO
 obtain ⟨z2_0, z2_1⟩ := HO.out.c2 2 rfl
 obtain ⟨x6, x8, hx6, hx8, k2_0_4, lk2_0_4, k2_1_7, lk2_1_7, hO⟩ := HO.out.steps2 2 rfl (.string s) (.int .i64 0)
 replace HO := Hi (show Own _ _ _ [_, _, blkR br (.cells #[.string s, .int .i64 0] 224)] from hO)
 clear hO
 obtain ⟨z2_0t, z2_1t⟩ := HO.out.c2 2 rfl
 go_enter_defers Tryz.func69, Tryz.ntmps69
 go_wp2_with fail
 have hO := Own.rot (L := [blkR bd (.cells #[.int .i64 0, .bool false, .int .i64 0, .string ⟨#[]⟩, .int .i64 0, .slice none 0 0] 86), blkR be (.cells #[.int .i64 0] 24)]) (L' := [blkR br (.cells #[.string s, .int .i64 0] 224)]) HO.out
 refine (rmsg_false id cd nm kd rs n HN.out HD.out HA.out HS.out hO).mono ?_
 clear hO
 rintro e x90 ⟨v, q, rfl, hO⟩
 obtain ⟨a, cap, rfl⟩ := row_shape (Own.row hO 3 rfl)
 replace HO := Hi (show Own _ _ _ [resRd br s q, blkR bd (.cells #[.int .i64 0, .bool false, .int .i64 0, .string ⟨#[]⟩, .int .i64 0, .slice none 0 0] 86), blkR be (.cells #[.int .i64 0] 24), rowR (.slice a n cap) 49 5 n (rs.flatMap cRc)] from hO)
 clear hO
 clear hx1 hbd z0_0 z0_1 z0_2 z0_3 z0_4 z0_5 hx2 hbe z1_0 hx3 hbr z2_0 z2_1 k2_0_4 lk2_0_4 hx6 k2_1_7 lk2_1_7 hx8 z2_0t z2_1t
 obtain ⟨x15, x21, x26, x30, x33, x35, hx15, hx21, hx26, hx30, hx33, hx35, k1_0_9, lk1_0_9, k1_1_16, lk1_1_16, k1_2_22, lk1_2_22, k1_3_27, lk1_3_27, k1_4_31, lk1_4_31, k1_5_34, lk1_5_34, hO⟩ := HO.out.steps6 1 rfl (.int .i64 id) (.bool false) (.int .i64 cd) (.string nm) (.int .i64 kd) (.slice a n cap)
 replace HO := Hi (show Own _ _ _ [_, blkR bd (.cells #[.int .i64 id, .bool false, .int .i64 cd, .string nm, .int .i64 kd, .slice a n cap] 86), _, _] from hO)
 clear hO
 obtain ⟨z1_0, z1_1, z1_2, z1_3, z1_4, z1_5⟩ := HO.out.c6 1 rfl
 go_wp2_with fail
 refine (o_still HO.out (encode_ok _ (HO.out.row 3 rfl) HN.out HD.out)).mono ?_
 rintro e x36 ⟨rfl, hO, -⟩
 replace HO := Hi hO
 clear hO
 clear k1_0_9 lk1_0_9 hx15 k1_1_16 lk1_1_16 hx21 k1_2_22 lk1_2_22 hx26 k1_3_27 lk1_3_27 hx30 k1_4_31 lk1_4_31 hx33 k1_5_34 lk1_5_34 hx35 z1_0 z1_1 z1_2 z1_3 z1_4 z1_5
 rw [← HQ.out]
 obtain ⟨z1_0, z1_1, z1_2, z1_3, z1_4, z1_5⟩ := HO.out.c6 1 rfl
 have z2_0 : x36.cell? _ = some (.int .i64 0) := HO.out.cell 2 rfl 0 rfl
 obtain ⟨x43, x49, x54, x58, x61, x63, hx43, hx49, hx54, hx58, hx61, hx63, k1_0_37, lk1_0_37, k1_1_44, lk1_1_44, k1_2_50, lk1_2_50, k1_3_55, lk1_3_55, k1_4_59, lk1_4_59, k1_5_62, lk1_5_62, hO⟩ := HO.out.steps6 1 rfl (.int .i64 id) (.bool false) (.int .i64 cd) (.string nm) (.int .i64 kd) (.slice a n cap)
 replace HO := Hi hO
 clear hO
 obtain ⟨z1_0t, z1_1t, z1_2t, z1_3t, z1_4t, z1_5t⟩ := HO.out.c6 1 rfl
 have ⟨z2_0t, y2_0⟩ : x63.cell? _ = some (.int .i64 0) ∧ _ := HO.out.cf 2 rfl 0 rfl
 obtain ⟨x64, hx64, hO⟩ := HO.out.setE 2 rfl 0 (.int .i64 0)
 replace HO := Hi hO
 clear hO
 go_wp2
 refine leaves_cons (f := 121) (args := #[.pointer (some ⟨bd, 0, none⟩), .pointer (some ⟨be, 0, none⟩)]) (by simp) (by simp [go_sem]) ?_
 refine (idle _ _ _).mono ?_
 rintro e u' w'' ⟨rfl, rfl, rfl⟩
 have hce : w''.cell? _ = some (.int .i64 0) := HO.out.cell 2 rfl 0 rfl
 refine ⟨_, results_cell_cell rfl _ _ _ bd 86 _ _ _ rfl (HO.out.blk 1 rfl) Tryz.underlying86 rfl infoDs (a2 := ⟨be, 0, none⟩) rfl (by simp [go_sem, hce]), _, rfl, HO.out.drop 3⟩
theorem encM_len {d : Dm} (h : DmV d) : (encM d).length ≤ 1100 := by
 unfold encM
 rw [List.length_append]
 have h1 := encHd_len (id := d.id) (an := d.an) (cd := d.cd) (nm := d.nm) (kd := d.kd) (n := d.rs.length) h.nm
 have h2 := encRs_len d.rs h.rs
 have h3 := h.len
 omega
theorem decode_ok {w : World} {id cd : Int} {an : Bool} {nm : ByteArray} {kd : Int} {rs : List Rc} {n : Nat} (hn : rs.length = n) (hd : DmV ⟨id, an, cd, nm, kd, rs⟩) :
  Calls Tryz.prog 69 #[.string ⟨(encM ⟨id, an, cd, nm, kd, rs⟩).toArray⟩] w fun e w' => ∃ v, e = .returned (.tuple #[.agg #[.int .i64 id, .bool an, .int .i64 cd, .string nm, .int .i64 kd, v], .int .i64 0]) ∧ Own w none0 w' [rowR v 49 5 n (rs.flatMap cRc)] := by
 have hs : (⟨(encM ⟨id, an, cd, nm, kd, rs⟩).toArray⟩ : ByteArray).size ≤ 999990 := by
  rw [mk_size]
  have := encM_len hd
  omega
 cases an with
 | true => exact decode_true id cd nm kd rs n hn hd rfl hs
 | false => exact decode_false id cd nm kd rs n hn hd rfl hs
end Go.Proofs.YtbolfkojebbejaaGreatDoor
