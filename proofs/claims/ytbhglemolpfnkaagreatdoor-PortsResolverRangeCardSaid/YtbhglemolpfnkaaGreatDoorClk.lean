/- Contract of Lookup. Printed by wip/tools/gen20m.py. -/
import Derived.Test.YtbhglemolpfnkaaGreatDoorCal
import Derived.Test.YtbhglemolpfnkaaGreatDoorBg
import Derived.Test.YtbhglemolpfnkaaGreatDoorBc
import Derived.Test.YtbhglemolpfnkaaGreatDoorCdat
set_option linter.unusedVariables false
set_option maxRecDepth 100000
set_option maxHeartbeats 32000000
namespace Go.Proofs.YtbhglemolpfnkaaGreatDoor
open Go.RowKit Go.Sort
variable {s : ByteArray} {l : List En}
attribute [local go_sem] Oper.semAt_some

def hitB (now : Int) (s : ByteArray) (e : En) : Bool := (e.nm.toList == s.toList) && liveB now e
def rcOf (now : Int) (e : En) : Rc := ⟨e.nm, e.kd, wrap64 (e.ex - now), e.ad, e.to⟩
def recsL (now : Int) (s : ByteArray) (l : List En) : List Rc := (l.filter (hitB now s)).map (rcOf now)
def lookL (now : Int) (s : ByteArray) : List En → List Rc × Bool
 | [] => ([], false)
 | e :: r => if hitB now s e then (if e.kd = 0 then ([], true) else (rcOf now e :: (lookL now s r).1, true)) else lookL now s r
def noNeg (now : Int) (s : ByteArray) (l : List En) : Prop := ∀ e ∈ l, hitB now s e = true → e.kd ≠ 0
theorem lookL_all {now : Int} {s : ByteArray} : ∀ {l : List En}, noNeg now s l → lookL now s l = (recsL now s l, l.any (hitB now s))
 | [], _ => rfl
 | e :: r, h => by
  have ih := lookL_all (l := r) (fun x hx => h x (List.mem_cons_of_mem _ hx))
  simp only [lookL, recsL, List.filter_cons, List.any_cons]
  cases hh : hitB now s e with
  | false => simpa [recsL] using ih
  | true =>
   have := h e (List.mem_cons_self ..) hh
   simp [this, ih, recsL]
theorem lookL_stop {now : Int} {s : ByteArray} {x : En} : ∀ {l pre : List En}, noNeg now s pre → hitB now s x = true → x.kd = 0 → (pre ++ [x]) <+: l → lookL now s l = (recsL now s pre, true)
 | l, [], _, hx, h0, hp => by
  obtain ⟨r, rfl⟩ := hp
  simp [lookL, hx, h0, recsL]
 | [], e :: p, _, _, _, hp => by simp at hp
 | a :: l, e :: p, h, hx, h0, hp => by
  rw [List.cons_append, List.cons_prefix_cons] at hp
  obtain ⟨rfl, hp⟩ := hp
  have ih := lookL_stop (l := l) (pre := p) (fun y hy => h y (List.mem_cons_of_mem _ hy)) hx h0 hp
  simp only [lookL]
  cases hh : hitB now s e with
  | false => simpa [recsL, List.filter_cons, hh] using ih
  | true =>
   have := h e (List.mem_cons_self ..) hh
   simp [this, ih, recsL, hh]
theorem recsL_len (now : Int) (s : ByteArray) (l : List En) : (recsL now s l).length ≤ l.length := by
 unfold recsL; rw [List.length_map]; exact List.length_filter_le _ _
theorem recsL_no {now : Int} {s : ByteArray} {l : List En} {x : En} (h : hitB now s x = false) : recsL now s (l ++ [x]) = recsL now s l := by simp [recsL, List.filter_append, h]
theorem recsL_yes {now : Int} {s : ByteArray} {l : List En} {x : En} (h : hitB now s x = true) : recsL now s (l ++ [x]) = recsL now s l ++ [rcOf now x] := by simp [recsL, List.filter_append, h]
theorem noNeg_snoc {now : Int} {x : En} (h : noNeg now s l) (hx : hitB now s x = true → x.kd ≠ 0) : noNeg now s (l ++ [x]) := fun e he hh => by
 rcases List.mem_append.1 he with he | he
 ·
  exact h e he hh
 ·
  obtain rfl : e = x := by simpa using he
  exact hx hh
theorem any_snoc {α : Type} {p : α → Bool} {l : List α} {x : α} : (l ++ [x]).any p = (l.any p || p x) := by simp [List.any_append]
abbrev lkL (bn bs br bk : Nat) (now : Int) (s : ByteArray) (v : Value) (k : Bool) (rs : List Rc) : List Res :=
 [blkR bn (.cells #[.int .i64 now] 3), blkR bs (.cells #[.string s] 9), blkR br (.cells #[v] 66), blkR bk (.cells #[.bool k] 4), rowR v 131 5 rs.length (rs.flatMap cRc)]
def lkI (bn bs br bk : Nat) (now : Int) (s : ByteArray) (pre : List En) (L : List Res) : Prop := noNeg now s pre ∧ ∃ v, L = lkL bn bs br bk now s v (pre.any (hitB now s)) (recsL now s pre)
def lkX (bn bs br bk : Nat) (now : Int) (s : ByteArray) (c : Code) (pre : List En) (L : List Res) : Prop := c = .exit 0 ∧ ∃ pre' x, pre = pre' ++ [x] ∧ noNeg now s pre' ∧ hitB now s x = true ∧ x.kd = 0 ∧ ∃ v, L = lkL bn bs br bk now s v true (recsL now s pre')
theorem lkL_still {B bn bs br bk : Nat} {now : Int} {v : Value} {k : Bool} {rs : List Rc} : stills B (lkL bn bs br bk now s v k rs) :=
 stills_cons (still_blk _ rfl) (stills_cons (still_blk _ rfl) (stills_cons (still_blk _ rfl) (stills_cons (still_blk _ rfl) (stills_cons (still_row _ _ _ _ _) stills_nil))))
def LookPost (w0 : World) (D : Nat → Prop) (L : List Res) (rk : List Rc × Bool) (w : World) (e : Ending) (w' : World) : Prop :=
 ∃ v d', e = .returned (.tuple #[v, .bool rk.2]) ∧ d'.Perm rk.1 ∧ sortedR d' ∧ Own w0 D w' (L ++ [rowR v 131 5 d'.length (d'.flatMap cRc)]) ∧ w.heap.size ≤ w'.heap.size
theorem run_bsRc (nm : ByteArray) (kd tt ad : Int) (to : ByteArray) (w : World) : (Instr.buildSlice 66 1 #[(0, .agg #[.string nm, .int .i64 kd, .int .i64 tt, .int .i64 ad, .string to])]).run Tryz.prog w = .ok (.slice (some ⟨w.heap.size, 0, none⟩) 1 1) (w.alloc (.cells #[.string nm, .int .i64 kd, .int .i64 tt, .int .i64 ad, .string to] 131)) := by kernel_rfl
theorem infoRc : (Tryz.prog.info? 131).map (fun i => (i.zero, i.size, i.bytes)) = some (some (.agg #[.string ⟨#[]⟩, .int .i64 0, .int .i64 0, .int .i64 0, .string ⟨#[]⟩]), 5, 56) := by kernel_rfl
theorem look_o {w0 w : World} {D : Nat → Prop} {L : List Res} {c : Nat} (now : Int) (s : ByteArray) (h : Own w0 D w L) (i : Nat) (hi : L[i]? = some (resC c l)) (hl : l.length ≤ 1000) :
  Calls Tryz.prog 114 #[.pointer (some ⟨c, 0, none⟩), .int .i64 now, .string s] w (LookPost w0 D L (lookL now s l) w) := by
 obtain ⟨DF, hF, hfoc⟩ := h.focus hi
 have HFOC := Hi hfoc
 have HO := Hi (show Own w DF w [resC c l] from hF)
 clear h hi hF hfoc
 have HL := Hi hl
 clear hl
 refine (callsIn_wide (n := 5)).1 ?_
 obtain ⟨n, hn⟩ : ∃ n : Nat, n = 5 := ⟨_, rfl⟩
 rw [← hn]
 have h1 : 1 ≤ n := by omega
 have HNN := Hi hn
 clear hn
 obtain ⟨x1, hx1, bn, hbn, hO⟩ := HO.out.allocE (.cells #[.int .i64 now] 3)
 replace HO := Hi (show Own _ _ _ [_, blkR bn (.cells #[.int .i64 now] 3)] from hO)
 clear hO
 obtain ⟨x2, hx2, bs, hbs, hO⟩ := HO.out.allocE (.cells #[.string s] 9)
 replace HO := Hi (show Own _ _ _ [_, _, blkR bs (.cells #[.string s] 9)] from hO)
 clear hO
 obtain ⟨x3, hx3, br, hbr, hO⟩ := HO.out.allocE (.cells #[.slice none 0 0] 66)
 replace HO := Hi (show Own _ _ _ [_, _, _, blkR br (.cells #[.slice none 0 0] 66)] from hO)
 clear hO
 obtain ⟨x4, hx4, bk, hbk, hO⟩ := HO.out.allocE (.cells #[.bool false] 4)
 replace HO := Hi (show Own _ _ _ [_, _, _, _, blkR bk (.cells #[.bool false] 4)] from hO)
 clear hO
 have ⟨z4_0, y4_0⟩ : x4.cell? _ = some (.bool false) ∧ _ := HO.out.cf 4 rfl 0 rfl
 obtain ⟨x5, hx5, hO⟩ := HO.out.setE 4 rfl 0 (.bool false)
 replace HO := Hi hO
 clear hO
 refine callsIn_of_wp_marks Tryz.func114 rfl trivial ?_ rfl
 simp only [Tryz.ntmps114, List.size_toArray, List.length_cons, List.length_nil, Nat.reduceAdd, Nat.reduceSub, Array.replicate_succ, Array.replicate_zero, List.push_toArray, List.append_toArray, List.nil_append, List.cons_append]
 gi_wp2
 refine wpIn_scope_wide ?_
 gi_wp2
 refine wpIn_label ?_
 gi_wp2_with (refine ⟨trivial, ?_⟩; gi_at_call 148; refine (callsIn_wide.2 (all_any c _)).mono ?_; rintro e xq ⟨rfl, rfl⟩)
 clear hx1 hbn hx2 hbs hx3 hbr hx4 hbk z4_0 y4_0 hx5
 obtain ⟨x6, hx6, bl, hbl, hO⟩ := HO.out.allocE (.cells #[.pointer (some ⟨c, 0, none⟩)] 232)
 replace HO := Hi (show Own _ _ _ [_, _, _, _, _, blkR bl (.cells #[.pointer (some ⟨c, 0, none⟩)] 232)] from hO)
 clear hO
 rw [hx6, hbl]
 clear hx6 hbl
 have hO := (HO.out.rot (L := [resC c l, blkR bn (.cells #[.int .i64 now] 3), blkR bs (.cells #[.string s] 9), blkR br (.cells #[.slice none 0 0] 66), blkR bk (.cells #[.bool false] 4)]) (L' := [blkR bl (.cells #[.pointer (some ⟨c, 0, none⟩)] 232)])).swap'
 have hO2 : Own w DF x6 ([resC c l, blkR bl (.cells #[.pointer (some ⟨c, 0, none⟩)] 232)] ++ lkL bn bs br bk now s (.slice none 0 0) false []) := by
  have h3 := hO.rowNew 131 5
  exact h3
 obtain ⟨DA, DB, s1, s2, s3, s4, s5, s6⟩ := Own.split (A := [resC c l, blkR bl (.cells #[.pointer (some ⟨c, 0, none⟩)] 232)]) (B := lkL bn bs br bk now s (.slice none 0 0) false []) hO2
 clear hO hO2 HO
 refine wpIn_rangeO (encs := encE) (D := DB) h1 (gf := 171) (lb := #[.pointer (some ⟨bl, 0, none⟩)]) rfl (enters_of Tryz.func171 (by kernel_rfl) rfl)
  (all_stops (n - 1) (by have := HNN.out; omega) l.length bl c l (Nat.le_refl _) HL.out _ DA _ s1 s3) (fun _ => rfl)
  (lkI bn bs br bk now s) (lkX bn bs br bk now s) (fun xs L h => by obtain ⟨_, v, rfl⟩ := h; exact lkL_still) (fun cd xs L h => by obtain ⟨_, _, _, _, _, _, _, v, rfl⟩ := h; exact lkL_still) s2 ⟨fun e he => by simp at he, .slice none 0 0, rfl⟩
  (fun x a' Lx => ∃ bx, Lx = [blkR bx (.cells (enA x) 201)] ∧ a' = { tmps := #[.pointer (some ⟨c, 0, none⟩), .int .i64 now, .string s, undef, .pointer (some ⟨bn, 0, none⟩), .pointer (some ⟨bs, 0, none⟩), .slice none 0 0, .bool false, .pointer (some ⟨br, 0, none⟩), .pointer (some ⟨bk, 0, none⟩), .pointer (some ⟨bx, 0, none⟩), undef, .pointer (some ⟨c, 0, none⟩), .bool false, .pointer (some ⟨c, 0, none⟩), .pointer (some ⟨c, 0, none⟩), .pointer (some ⟨c, 0, none⟩), .func (.func 171) #[] #[.pointer (some ⟨bl, 0, none⟩)], enV x, undef, undef, undef, undef, undef, undef, undef, undef, undef, undef, undef, undef, undef, undef, undef, undef, undef, undef, undef, undef, undef, undef, undef, undef, undef, undef, undef, undef, undef, undef, undef, undef, undef, undef, undef, undef, undef, undef, undef, undef, undef, undef], defers := [] })
  ?assign ?body ?done ?stop
 case assign =>
  rintro l0 pre x W D' L' K hi ho hK
  obtain ⟨nm, kd, ad, to, ex⟩ := x
  have HK := Hi hK
  have HOL := Hi ho
  clear hK ho hi
  have HO := Hi (Own.nil W none0)
  have hge := Nat.le_refl W.heap.size
  obtain ⟨x101, hx101, bx, hbx, hO⟩ := HO.out.allocE (.cells #[.string ⟨#[]⟩, .int .i64 0, .int .i64 0, .string ⟨#[]⟩, .int .i64 0] 201)
  replace HO := Hi (show Own W none0 x101 [blkR bx (.cells #[.string ⟨#[]⟩, .int .i64 0, .int .i64 0, .string ⟨#[]⟩, .int .i64 0] 201)] from hO)
  clear hO
  obtain ⟨x107, x112, x116, x119, x121, hx107, hx112, hx116, hx119, hx121, k0_0_102, lk0_0_102, k0_1_108, lk0_1_108, k0_2_113, lk0_2_113, k0_3_117, lk0_3_117, k0_4_120, lk0_4_120, hO⟩ := HO.out.steps5 0 rfl (.string nm) (.int .i64 kd) (.int .i64 ad) (.string to) (.int .i64 ex)
  replace HO := Hi (show Own _ _ _ [blkR bx (.cells #[.string nm, .int .i64 kd, .int .i64 ad, .string to, .int .i64 ex] 201)] from hO)
  clear hO
  gi_wp2
  exact HK.out _ _ _ ⟨bx, rfl, rfl⟩ (HOL.out.push (R := blkR bx (.cells #[.string nm, .int .i64 kd, .int .i64 ad, .string to, .int .i64 ex] 201)) (F := fun z => z = bx) ⟨fun _ => Iff.rfl, HO.out.blk 0 rfl⟩ (fun z hz => by rw [hz, ← hbx]; exact Nat.le_refl _) HO.out.below)
 case body =>
  rintro l0 pre x a' W D' L' Lx ⟨hno, v, rfl⟩ ⟨bx, rfl, rfl⟩ hlt hup ho
  have HNO := Hi hno
  have HPL := Hi (show (recsL now s pre).length ≤ 1000 from Nat.le_trans (recsL_len _ _ _) (by have := HL.out; omega))
  have HB1 := Hi (show (pre ++ [x]).any (hitB now s) = (pre.any (hitB now s) || hitB now s x) from any_snoc)
  have HR1 := Hi (@recsL_no now s pre x)
  have HR2 := Hi (@recsL_yes now s pre x)
  have hd : 1 ≤ n - 1 - 1 := by have := HNN.out; omega
  obtain ⟨kb, hkb⟩ : ∃ kb, pre.any (hitB now s) = kb := ⟨_, rfl⟩
  obtain ⟨rs, hrs⟩ : ∃ rs, recsL now s pre = rs := ⟨_, rfl⟩
  rw [hkb] at ho HB1
  rw [hrs] at ho HPL HR1 HR2
  have HRS := Hi hrs
  have HO := Hi ho
  clear hno hlt hup ho hkb hrs
  obtain ⟨va, vc, hv⟩ := row_shape (HO.out.row 4 rfl)
  obtain ⟨rn, hrn⟩ : ∃ rn, rs.length = rn := ⟨_, rfl⟩
  have HRN := Hi hrn
  rw [hrn] at hv
  subst hv
  obtain ⟨nm, kd, ad, to, ex⟩ := x
  have HH := Hi (show hitB now s ⟨nm, kd, ad, to, ex⟩ = ((nm.toList == s.toList) && liveB now ⟨nm, kd, ad, to, ex⟩) from rfl)
  clear hrn
  replace HO := Hi (show Own W D' W [blkR bn (.cells #[.int .i64 now] 3), blkR bs (.cells #[.string s] 9), blkR br (.cells #[.slice va rn vc] 66), blkR bk (.cells #[.bool kb] 4), rowR (.slice va rn vc) 131 5 rs.length (rs.flatMap cRc), blkR bx (.cells #[.string nm, .int .i64 kd, .int .i64 ad, .string to, .int .i64 ex] 201)] from HO.out)
  have z0_0 : W.cell? _ = some (.int .i64 now) := HO.out.cell 0 rfl 0 rfl
  have z1_0 : W.cell? _ = some (.string s) := HO.out.cell 1 rfl 0 rfl
  obtain ⟨z5_0, z5_1, z5_2, z5_3, z5_4⟩ := HO.out.c5 5 rfl
  by_cases hnm : nm.toList = s.toList
  ·
   have e1 : (nm.toList == s.toList) = true := by simpa using hnm
   have e2 : (nm.toList != s.toList) = false := by simpa using hnm
   cases hlv : liveB now ⟨nm, kd, ad, to, ex⟩ with
   | false =>
    have HIT := Hi (show hitB now s ⟨nm, kd, ad, to, ex⟩ = false by rw [HH.out, hlv, Bool.and_false])
    have HLV := Hi hlv
    clear hlv hnm e2
    gi_wp2_with fail
    refine ⟨trivial, ?_⟩
    refine (CallsIn.inRound l0 (callsIn_wide.2 (live_r HLV.out _))).mono ?_
    rintro e x201 ⟨rfl, hb⟩
    have hO := HO.out.stay hb
    replace HO := Hi hO
    clear hO hb
    clear z0_0 z1_0 z5_0 z5_1 z5_2 z5_3 z5_4
    gi_wp2
    exact ⟨_, ⟨noNeg_snoc HNO.out (fun h => by rw [HIT.out] at h; cases h), .slice va rn vc, rfl⟩, by rw [HB1.out, HIT.out, Bool.or_false, HR1.out HIT.out]; exact HO.out.take 5⟩
   | true =>
    have HIT := Hi (show hitB now s ⟨nm, kd, ad, to, ex⟩ = true by rw [HH.out, hlv, e1]; rfl)
    have HLV := Hi hlv
    clear hlv hnm e2
    by_cases hk0 : kd = 0
    ·
     subst hk0
     gi_wp2_with fail
     refine ⟨trivial, ?_⟩
     refine (CallsIn.inRound l0 (callsIn_wide.2 (live_r HLV.out _))).mono ?_
     rintro e x201 ⟨rfl, hb⟩
     have hO := HO.out.stay hb
     replace HO := Hi (show Own _ _ _ [_, _, _, _, _, blkR bx (.cells #[.string nm, .int .i64 0, .int .i64 ad, .string to, .int .i64 ex] 201)] from hO)
     clear hO hb
     clear z0_0 z1_0 z5_0 z5_1 z5_2 z5_3 z5_4
     obtain ⟨z5_0, z5_1, z5_2, z5_3, z5_4⟩ := HO.out.c5 5 rfl
     have ⟨z3_0, y3_0⟩ : x201.cell? _ = some (.bool kb) ∧ _ := HO.out.cf 3 rfl 0 rfl
     gi_wp2
     exact ⟨_, ⟨rfl, pre, _, rfl, HNO.out, HIT.out, rfl, .slice va rn vc, rfl⟩, by rw [HRS.out]; exact (HO.out.setCell 3 rfl 0 (.bool true)).take 5⟩
    ·
     have e3 : (kd == 0) = false := by simpa using hk0
     have HK0 := Hi hk0
     clear hk0
     gi_wp2_with fail
     refine ⟨trivial, ?_⟩
     refine (CallsIn.inRound l0 (callsIn_wide.2 (live_r HLV.out _))).mono ?_
     rintro e x201 ⟨rfl, hb⟩
     have hO := HO.out.stay hb
     replace HO := Hi hO
     clear hO hb
     clear z0_0 z1_0 z5_0 z5_1 z5_2 z5_3 z5_4
     obtain ⟨z5_0, z5_1, z5_2, z5_3, z5_4⟩ := HO.out.c5 5 rfl
     have ⟨z3_0, y3_0⟩ : x201.cell? _ = some (.bool kb) ∧ _ := HO.out.cf 3 rfl 0 rfl
     obtain ⟨x201, hx201, hO⟩ := HO.out.setE 3 rfl 0 (.bool true)
     replace HO := Hi (show Own _ _ _ [_, _, _, blkR bk (.cells #[.bool true] 4), _, _] from hO)
     clear hO
     have z0_0 : x201.cell? _ = some (.int .i64 now) := HO.out.cell 0 rfl 0 rfl
     obtain ⟨z5_0t, z5_1t, z5_2t, z5_3t, z5_4t⟩ := HO.out.c5 5 rfl
     obtain ⟨x202, hx202, bq, hbq, hO⟩ := HO.out.allocE (.cells #[.string ⟨#[]⟩, .int .i64 0, .int .i64 0, .int .i64 0, .string ⟨#[]⟩] 131)
     replace HO := Hi (show Own _ _ _ [_, _, _, _, _, _, blkR bq (.cells #[.string ⟨#[]⟩, .int .i64 0, .int .i64 0, .int .i64 0, .string ⟨#[]⟩] 131)] from hO)
     clear hO
     obtain ⟨x208, x213, x217, x220, x222, hx208, hx213, hx217, hx220, hx222, k6_0_203, lk6_0_203, k6_1_209, lk6_1_209, k6_2_214, lk6_2_214, k6_3_218, lk6_3_218, k6_4_221, lk6_4_221, hO⟩ := HO.out.steps5 6 rfl (.string nm) (.int .i64 kd) (.int .i64 (wrap64 (ex - now))) (.int .i64 ad) (.string to)
     replace HO := Hi (show Own _ _ _ [_, _, _, _, _, _, blkR bq (.cells #[.string nm, .int .i64 kd, .int .i64 (wrap64 (ex - now)), .int .i64 ad, .string to] 131)] from hO)
     clear hO
     obtain ⟨z6_0, z6_1, z6_2, z6_3, z6_4⟩ := HO.out.c5 6 rfl
     have z2_0 : x222.cell? _ = some (.slice va rn vc) := HO.out.cell 2 rfl 0 rfl
     have rb := run_bsRc
     obtain ⟨x223, hx223, bp, hbp, hO⟩ := HO.out.allocE (.cells #[.string nm, .int .i64 kd, .int .i64 (wrap64 (ex - now)), .int .i64 ad, .string to] 131)
     replace HO := Hi (show Own _ _ _ [_, _, _, _, _, _, _, blkR bp (.cells #[.string nm, .int .i64 kd, .int .i64 (wrap64 (ex - now)), .int .i64 ad, .string to] 131)] from hO)
     clear hO
     gi_wp2_with ((gi_at_builtin; refine (show _ = True → _ from fun h => of_eq_true h) ?_))
     refine eq_true ?_
     refine wpListIn_appO rfl (.tmp 53) (.tmp 55) 66 rfl Tryz.underlying66 infoRc rfl (by decide) HO.out 4 rfl rfl 7 1 1 (cRc ⟨nm, kd, wrap64 (ex - now), ad, to⟩) rfl rfl rfl (oneR _) (by have := HPL.out; unfold maxLen; omega) (by have := HPL.out; omega) ?_
     intro v9 x9 hO
     clear z5_0 z5_1 z5_2 z5_3 z5_4 z3_0 y3_0 hx201 z0_0 z5_0t z5_1t z5_2t z5_3t z5_4t hx202 hbq k6_0_203 lk6_0_203 hx208 k6_1_209 lk6_1_209 hx213 k6_2_214 lk6_2_214 hx217 k6_3_218 lk6_3_218 hx220 k6_4_221 lk6_4_221 hx222 z6_0 z6_1 z6_2 z6_3 z6_4 z2_0 hx223 hbp
     clear rb e1 e3
     obtain ⟨wa, wc, hw⟩ := row_shape (hO.row 4 rfl)
     obtain ⟨wn, hwn⟩ : ∃ y, rs.length + 1 = y := ⟨_, rfl⟩
     rw [hwn] at hw
     subst hw
     clear hwn
     have hrow : rowR (.slice wa wn wc) 131 5 (rs.length + 1) (rs.flatMap cRc ++ cRc ⟨nm, kd, wrap64 (ex - now), ad, to⟩) = rowR (.slice wa wn wc) 131 5 (rs ++ [rcOf now ⟨nm, kd, ad, to, ex⟩]).length ((rs ++ [rcOf now ⟨nm, kd, ad, to, ex⟩]).flatMap cRc) := by
      rw [List.length_append, List.flatMap_append]; rfl
     simp only [l_S, l_Z, hrow] at hO
     replace HO := Hi (show Own _ _ _ [_, _, _, _, rowR (.slice wa wn wc) 131 5 (rs ++ [rcOf now ⟨nm, kd, ad, to, ex⟩]).length ((rs ++ [rcOf now ⟨nm, kd, ad, to, ex⟩]).flatMap cRc), _, _, _] from hO)
     clear hO hrow
     have ⟨z2_0, y2_0⟩ : x9.cell? _ = some (.slice va rn vc) ∧ _ := HO.out.cf 2 rfl 0 rfl
     gi_wp2
     exact ⟨_, ⟨noNeg_snoc HNO.out (fun _ => HK0.out), .slice wa wn wc, rfl⟩, by rw [HB1.out, HIT.out, Bool.or_true, HR2.out HIT.out]; exact (HO.out.setCell 2 rfl 0 (.slice wa wn wc)).take 5⟩
  ·
   have e1 : (nm.toList == s.toList) = false := by simpa using hnm
   have e2 : (nm.toList != s.toList) = true := by simpa using hnm
   have HIT := Hi (show hitB now s ⟨nm, kd, ad, to, ex⟩ = false by rw [HH.out, e1]; rfl)
   gi_wp2
   refine ⟨trivial, ?_⟩
   gi_wp2
   exact ⟨_, ⟨noNeg_snoc HNO.out (fun h => by rw [HIT.out] at h; cases h), .slice va rn vc, rfl⟩, by rw [HB1.out, HIT.out, Bool.or_false, HR1.out HIT.out]; exact HO.out.take 5⟩
 case done =>
  rintro k xs W L' hxs ⟨hno, v, rfl⟩ ho
  rw [hxs] at hno ho
  clear hxs
  have hd : 1 ≤ n - 1 := by have := HNN.out; omega
  obtain ⟨rs, hrs⟩ : ∃ rs, recsL now s l = rs := ⟨_, rfl⟩
  obtain ⟨kb, hkb⟩ : ∃ kb : Bool, l.any (hitB now s) = kb := ⟨_, rfl⟩
  have HLK := Hi (show lookL now s l = (rs, kb) by rw [lookL_all hno, hrs, hkb])
  rw [hrs, hkb] at ho
  have HPL := Hi (show rs.length ≤ 1000 by rw [← hrs]; exact Nat.le_trans (recsL_len _ _ _) (by exact HL.out))
  have HO := Hi ho
  clear ho hrs hkb hno
  obtain ⟨va, vc, hv⟩ := row_shape (HO.out.row 5 rfl)
  obtain ⟨rn, hrn⟩ : ∃ rn, rs.length = rn := ⟨_, rfl⟩
  rw [hrn] at hv
  subst hv
  clear hrn
  have hsort := sort_o HO.out 5 rfl HPL.out
  have c2 : W.cell? _ = some (.slice va rn vc) := HO.out.cell 3 rfl 0 rfl
  gi_wp2_with (refine ⟨trivial, ?_⟩; gi_at_call 149; refine (callsIn_wide.2 hsort).mono ?_; rintro e x2 ⟨rfl, d', hp, hs, hO, hsz⟩)
  clear c2 hsort
  have HP := Hi hp
  have HS := Hi hs
  replace HO := Hi hO
  clear hp hs hO hsz
  have c2 : x2.cell? _ = some (.slice va rn vc) := HO.out.cell 3 rfl 0 rfl
  have c3 : x2.cell? _ = some (.bool kb) := HO.out.cell 4 rfl 0 rfl
  have k1 := cell_regrown c2
  have k2 := cell_regrown c3
  clear c2 c3
  gi_wp2
  refine wpIn_region_quiet_below rfl (by kernel_rfl) (by kernel_rfl) ?_
  repeat (gi_big_quiet_step (fail))
  refine wpQuietIn_nil ?_
  rintro w3 ⟨⟨dq, osq⟩, rfl⟩
  have hb3 := below_regrown x2 dq osq
  generalize grow (redrawn x2 dq) osq = w3 at *
  replace HO := Hi (HO.out.stay hb3)
  clear k1 k2 hb3
  gi_wp2
  rw [Exit.noGoto_ret]
  refine ⟨by simp, .inl ⟨_, _, rfl, run_takeDeferred (HO.out.blk 0 rfl), ?_⟩⟩
  have ho4 := s6 _ _ (HO.out.put 0 rfl (.deferred none))
  have ho5 : Own w DF _ [resC c l, rowR (.slice va rn vc) 131 5 rs.length (d'.flatMap cRc)] := ho4.pick [0, 7] (by decide) (fun k R hk => by
   match k, hk with
   | 0, hk => cases hk; exact ⟨0, rfl, rfl⟩
   | 1, hk => cases hk; exact ⟨7, rfl, rfl⟩)
  exact ⟨_, results_tmp2 rfl _ _ _, .slice va rn vc, d', by rw [HLK.out]; rfl, by rw [HLK.out]; exact HP.out, HS.out, by rw [HP.out.length_eq]; exact HFOC.out _ _ ho5, ho5.size⟩
 case stop =>
  rintro k cd pre W L' hpre ⟨rfl, pre', x, rfl, hno, hh, h0, v, rfl⟩ ho
  have hd : 1 ≤ n - 1 := by have := HNN.out; omega
  obtain ⟨rs, hrs⟩ : ∃ rs, recsL now s pre' = rs := ⟨_, rfl⟩
  have HLK := Hi (show lookL now s l = (rs, true) by rw [lookL_stop hno hh h0 hpre, hrs])
  rw [hrs] at ho
  have HPL := Hi (show rs.length ≤ 1000 by rw [← hrs]; exact Nat.le_trans (recsL_len _ _ _) (by have := hpre.length_le; simp at this; have := HL.out; omega))
  have HO := Hi ho
  clear ho hrs hno hh h0 hpre
  obtain ⟨va, vc, hv⟩ := row_shape (HO.out.row 5 rfl)
  obtain ⟨rn, hrn⟩ : ∃ rn, rs.length = rn := ⟨_, rfl⟩
  rw [hrn] at hv
  subst hv
  clear hrn
  have hsort := sort_o HO.out 5 rfl HPL.out
  have c2 : W.cell? _ = some (.slice va rn vc) := HO.out.cell 3 rfl 0 rfl
  gi_wp2_with (refine ⟨trivial, ?_⟩; gi_at_call 149; refine (callsIn_wide.2 hsort).mono ?_; rintro e x2 ⟨rfl, d', hp, hs, hO, hsz⟩)
  clear c2 hsort
  have HP := Hi hp
  have HS := Hi hs
  replace HO := Hi hO
  clear hp hs hO hsz
  have c2 : x2.cell? _ = some (.slice va rn vc) := HO.out.cell 3 rfl 0 rfl
  have c3 : x2.cell? _ = some (.bool true) := HO.out.cell 4 rfl 0 rfl
  have k1 := cell_regrown c2
  have k2 := cell_regrown c3
  clear c2 c3
  gi_wp2
  refine wpIn_region_quiet_below rfl (by kernel_rfl) (by kernel_rfl) ?_
  repeat (gi_big_quiet_step (fail))
  refine wpQuietIn_nil ?_
  rintro w3 ⟨⟨dq, osq⟩, rfl⟩
  have hb3 := below_regrown x2 dq osq
  generalize grow (redrawn x2 dq) osq = w3 at *
  replace HO := Hi (HO.out.stay hb3)
  clear k1 k2 hb3
  gi_wp2
  rw [Exit.noGoto_ret]
  refine ⟨by simp, .inl ⟨_, _, rfl, run_takeDeferred (HO.out.blk 0 rfl), ?_⟩⟩
  have ho4 := s6 _ _ (HO.out.put 0 rfl (.deferred none))
  have ho5 : Own w DF _ [resC c l, rowR (.slice va rn vc) 131 5 rs.length (d'.flatMap cRc)] := ho4.pick [0, 7] (by decide) (fun k R hk => by
   match k, hk with
   | 0, hk => cases hk; exact ⟨0, rfl, rfl⟩
   | 1, hk => cases hk; exact ⟨7, rfl, rfl⟩)
  exact ⟨_, results_tmp2 rfl _ _ _, .slice va rn vc, d', by rw [HLK.out]; rfl, by rw [HLK.out]; exact HP.out, HS.out, by rw [HP.out.length_eq]; exact HFOC.out _ _ ho5, ho5.size⟩

end Go.Proofs.YtbhglemolpfnkaaGreatDoor
