/- ResolverNilAndInvalid: the plain law, the nil resolver, the walk. Printed by wip/tools/gen21v.py. -/
import Derived.Test.YtbolfkojebbejaaGreatDoorLr3
import Derived.Test.YtbolfkojebbejaaGreatDoorRtk
namespace Go.Proofs.YtbolfkojebbejaaGreatDoor
open Go.RowKit Go.Sort
set_option linter.unusedVariables false
set_option maxRecDepth 100000
attribute [local go_sem] Oper.semAt_some

def niZ (wl : List (Nat × Lk)) : Rz := ⟨[3], 0, [], (wl.length : Int), (wl.length : Int), wl, []⟩
theorem ni_start (wl : List (Nat × Lk)) (b : Nat) (nm : ByteArray) : startZ 0 (niZ wl) b nm = (niZ (wl ++ [(b, ⟨(wl.length : Int) + 1, [nm], 1, (wl.length : Int) + 1, 0, 3⟩)]), [qyZ 0 (wl.length : Int) 3 nm]) := by
 have h1 : rslF 0 [] [] 5 [nm] = ([nm], .ask) := by
  simp [rslF, foundF, knownF, ofN, lookD, recs, srtR, knwD, adF, nxF]
 show (match rslF 0 [] [] 5 [nm] with
  | (ch', .ask) => askZ 0 (pushZ (niZ wl) b nm) wl.length b ⟨(wl.length : Int) + 1, ch', 0, 0, 0, 0⟩
  | (_, .addrs l) => (finZ (pushZ (niZ wl) b nm) wl.length ((wl.length : Int) + 1) 0 l, [])
  | (_, .fail n) => (finZ (pushZ (niZ wl) b nm) wl.length ((wl.length : Int) + 1) n [], [])) = _
 rw [h1]
 show askZ 0 (pushZ (niZ wl) b nm) wl.length b ⟨(wl.length : Int) + 1, [nm], 0, 0, 0, 0⟩ = _
 unfold askZ
 rw [if_neg (by show ¬ (3 * ((1 : Nat) : Int) ≤ 0); omega)]
 have e1 : ∀ (x y : Nat × Lk), (wl ++ [x]).set wl.length y = wl ++ [y] := fun x y => by
  rw [List.set_append_right _ _ (Nat.le_refl _), Nat.sub_self]; rfl
 have e2 : ∀ y : Nat × Lk, (((wl ++ [y]).length : Nat) : Int) = (wl.length : Int) + 1 := fun y => by rw [List.length_append]; rfl
 unfold niZ pushZ
 simp only [e1, e2]
 rfl
theorem ni_start1 (wl : List (Nat × Lk)) (b : Nat) (nm : ByteArray) : (startZ 0 (niZ wl) b nm).1 = niZ (wl ++ [(b, ⟨(wl.length : Int) + 1, [nm], 1, (wl.length : Int) + 1, 0, 3⟩)]) := by rw [ni_start]
theorem ni_start2 (wl : List (Nat × Lk)) (b : Nat) (nm : ByteArray) : (startZ 0 (niZ wl) b nm).2 = [qyZ 0 (wl.length : Int) 3 nm] := by rw [ni_start]
theorem niZ_ok {wl : List (Nat × Lk)} (h8 : wl.length ≤ 8) (hk : ∀ p ∈ wl, LkOk p.2) : ZI (niZ wl) :=
 ⟨by show 0 < 1; decide, by show 1 ≤ 4; decide, by show (0 : Int) ≤ 0; decide, by show (0 : Int) ≤ 4294967295; decide, by show 0 ≤ (wl.length : Int); omega, by show wl.length ≤ 100; omega, hk, by show 0 ≤ 1000; decide, by show 0 ≤ 32; decide, List.Pairwise.nil, fun e he => (by cases he)⟩
theorem ni_lk {wl : List (Nat × Lk)} {nm : ByteArray} {b : Nat} (hv : vname nm = true) (hk : ∀ p ∈ wl, LkOk p.2) : ∀ p ∈ wl ++ [(b, (⟨(wl.length : Int) + 1, [nm], 1, (wl.length : Int) + 1, 0, 3⟩ : Lk))], LkOk p.2 := fun p hp => by
 rcases List.mem_append.1 hp with hp | hp
 ·
  exact hk p hp
 ·
  rw [List.mem_singleton.1 hp]
  exact ⟨by show 0 < 1; decide, by show 1 ≤ 5; decide, fun s hs => by rw [List.mem_singleton.1 hs]; exact hv, by show (0 : Int) ≤ 1; decide, by show (1 : Int) ≤ 12; decide⟩
theorem receive_nil (w : World) : Calls Tryz.prog 24 #[.pointer none, .int .i64 0, .int .i64 3, .agg #[.int .i64 0, .int .i64 0, .string ⟨#[]⟩]] w fun e w' => e = .returned (.tuple #[.bool false, .slice none 0 0]) ∧ Below w.heap.size w w' := by
 have HO := Lib.hid (Own.nil w none0)
 obtain ⟨x1, hx1, bu, hbu, hO⟩ := HO.out.allocE (.cells #[.int .i64 0, .int .i64 0, .string ⟨#[]⟩] 56)
 replace HO := Lib.hid hO
 clear hO
 go_enter Tryz.func24, Tryz.ntmps24
 go_wp2
 go_ret2
 exact ⟨rfl, HO.out.below⟩
theorem sizes_nil (w : World) : Calls Tryz.prog 39 #[.pointer none] w fun e w' => e = .returned (.tuple #[.int .i64 0, .int .i64 0]) ∧ w = w' := by
 go_enter Tryz.func39, Tryz.ntmps39
 go_wp2
 go_ret2
 exact ⟨rfl, rfl⟩
def niN (wl : List (Nat × Lk)) (b : Nat) (nm : ByteArray) : List (Nat × Lk) := wl ++ [(b, ⟨(wl.length : Int) + 1, [nm], 1, (wl.length : Int) + 1, 0, 3⟩)]
theorem niN_len (wl : List (Nat × Lk)) (b : Nat) (nm : ByteArray) : (niN wl b nm).length = wl.length + 1 := by unfold niN; rw [List.length_append]; rfl
theorem niN_lk {wl : List (Nat × Lk)} {nm : ByteArray} (b : Nat) (hv : vname nm = true) (hk : ∀ p ∈ wl, LkOk p.2) : ∀ p ∈ niN wl b nm, LkOk p.2 := ni_lk hv hk
def NiP (w0 : World) (D : Nat → Prop) (w : World) (a : Nat) (wl : List (Nat × Lk)) (nm : ByteArray) (g : Glo) (e : Ending) (w' : World) : Prop := ∃ b u, e = .returned (.tuple #[.int .i64 ((wl.length : Int) + 1), u, .int .i64 0]) ∧ Own w0 D w' [resZ a (niZ (niN wl b nm)), glR g] ∧ w.heap.size ≤ w'.heap.size
theorem ni_resolve {w : World} {D : Nat → Prop} {a : Nat} {wl : List (Nat × Lk)} {nm : ByteArray} {g : Glo} (h : Own w D w [resZ a (niZ wl), glR g]) (hv : vname nm = true) (h8 : wl.length < 8) (hk : ∀ p ∈ wl, LkOk p.2) :
  Calls Tryz.prog 15 #[.pointer (some ⟨a, 0, none⟩), .int .i64 0, .string nm] w (NiP w D w a wl nm g) := by
 have q1 : (niZ wl).qn ≤ 100000 := by show (wl.length : Int) ≤ 100000; omega
 have t0 : 0 ≤ (niZ wl).tk := by show 0 ≤ (wl.length : Int); omega
 have t1 : (niZ wl).tk ≤ 100000 := q1
 refine (resolve_z (now := 0) h (niZ_ok (by omega) hk) hv h8 q1 t0 t1).mono ?_
 rintro e w' ⟨b, u, h1, h2, h3⟩
 rw [ni_start1, ni_start2] at h2
 exact ⟨b, u, h1, h2.toEnd 3 [0, 1] rfl rfl, h3⟩
theorem ni_resolveF {w0 w : World} {D : Nat → Prop} {a : Nat} {wl : List (Nat × Lk)} {nm : ByteArray} {g : Glo} (h : Own w0 D w [resZ a (niZ wl), glR g]) (hv : vname nm = true) (h8 : wl.length < 8) (hk : ∀ p ∈ wl, LkOk p.2) :
  Calls Tryz.prog 15 #[.pointer (some ⟨a, 0, none⟩), .int .i64 0, .string nm] w (NiP w0 D w a wl nm g) :=
 (o_frame (A := []) (B := [resZ a (niZ wl), glR g]) (Q := fun e B' => ∃ b u, e = .returned (.tuple #[.int .i64 ((wl.length : Int) + 1), u, .int .i64 0]) ∧ B' = [resZ a (niZ (niN wl b nm)), glR g]) h
  (fun D' hD => (ni_resolve hD hv h8 hk).mono fun e w' ⟨b, u, h1, h2, h3⟩ => ⟨_, ⟨b, u, h1, rfl⟩, h2, h3⟩)).mono fun e w' ⟨B', ⟨b, u, h1, h2⟩, h3, h4⟩ => ⟨b, u, h1, by subst h2; exact h3, h4⟩
def nmN (i : Nat) : ByteArray := ⟨#[110, UInt8.ofNat (97 + i)]⟩
theorem nmN_v {i : Nat} (h : i < 12) : vname (nmN i) = true := by
 have h12 : i = 0 ∨ i = 1 ∨ i = 2 ∨ i = 3 ∨ i = 4 ∨ i = 5 ∨ i = 6 ∨ i = 7 ∨ i = 8 ∨ i = 9 ∨ i = 10 ∨ i = 11 := by omega
 rcases h12 with rfl | rfl | rfl | rfl | rfl | rfl | rfl | rfl | rfl | rfl | rfl | rfl <;> decide +kernel
theorem nmN_cells {i : Nat} (h : i < 12) : ([.int .u8 (97 + (i : Int))] : List Value) = Lib.byteCells [UInt8.ofNat (97 + i)] := by
 have h12 : i = 0 ∨ i = 1 ∨ i = 2 ∨ i = 3 ∨ i = 4 ∨ i = 5 ∨ i = 6 ∨ i = 7 ∨ i = 8 ∨ i = 9 ∨ i = 10 ∨ i = 11 := by omega
 rcases h12 with rfl | rfl | rfl | rfl | rfl | rfl | rfl | rfl | rfl | rfl | rfl | rfl <;> rfl
theorem nmN_eq {i : Nat} (h : i < 12) : (⟨#[110]⟩ : ByteArray) ++ ⟨#[97 + UInt8.ofNat i]⟩ = nmN i := by
 have h12 : i = 0 ∨ i = 1 ∨ i = 2 ∨ i = 3 ∨ i = 4 ∨ i = 5 ∨ i = 6 ∨ i = 7 ∨ i = 8 ∨ i = 9 ∨ i = 10 ∨ i = 11 := by omega
 rcases h12 with rfl | rfl | rfl | rfl | rfl | rfl | rfl | rfl | rfl | rfl | rfl | rfl <;> decide +kernel
theorem run_bsB (n : Int) (w : World) : (Instr.buildSlice 109 1 #[(0, .int .u8 n)]).run Tryz.prog w = .ok (.slice (some ⟨w.heap.size, 0, none⟩) 1 1) (w.alloc (.cells #[.int .u8 n] 5)) := by kernel_rfl
theorem run_bdU0 (w : World) : (Instr.build 56 #[]).run Tryz.prog w = .ok (.agg #[.int .i64 0, .int .i64 0, .string ⟨#[]⟩]) w := by kernel_rfl
section
attribute [local go_sem ↓] run_mn9 run_bdU0
set_option maxRecDepth 100000 in
set_option maxHeartbeats 16000000 in
theorem nilInvalid_w (s : ByteArray) (n : Int) (w : World) (D : Nat → Prop) (g : Glo) (h : Own w D w [glR g]) (hg : g.ok = true) (hs : s.size ≤ maxLen) (hn : i64B n) :
  Calls Tryz.prog 10 #[.string s, .int .i64 n] w (OPost w D [glR g] (.bool true) w) := by
 have HO := Lib.hid h
 have HG := Lib.hid hg
 obtain ⟨nl, hnl⟩ : ∃ y : Nat, min s.size 70 = y := ⟨_, rfl⟩
 have hmn : mn9 s.size 70 = nl := by unfold mn9; split <;> omega
 have hn0 : (0 : Int) ≤ (nl : Int) := by omega
 have hn1 : (nl : Int) ≤ (s.size : Int) := by omega
 have HNS := Lib.hid (show (s.extract 0 nl).size ≤ maxLen by unfold maxLen at *; rw [ByteArray.size_extract]; omega)
 clear h hg hnl hn hs
 go_enter Tryz.func10, Tryz.ntmps10
 go_wp2_with fail
 refine (sanity_o HO.out HG.out).mono ?_
 rintro e x1 ⟨rfl, hO, -⟩
 replace HO := Lib.hid (show Own w D x1 [glR g] from hO)
 clear hO
 go_wp2_with fail
 refine (o_same HO.out (resolve_nil 0 _ _)).mono ?_
 rintro e x2 ⟨rfl, hO, -⟩
 replace HO := Lib.hid hO
 clear hO
 go_wp2_with fail
 refine (o_still HO.out (receive_nil _)).mono ?_
 rintro e x3 ⟨rfl, hO, -⟩
 replace HO := Lib.hid hO
 clear hO
 go_wp2_with fail
 refine (o_same HO.out (sizes_nil _)).mono ?_
 rintro e x4 ⟨rfl, hO, -⟩
 replace HO := Lib.hid hO
 clear hO
 obtain ⟨x5, hx5, g1, hg1, hO⟩ := HO.out.allocE (.cells #[.int .i64 3] 3)
 replace HO := Lib.hid (show Own _ _ _ [_, blkR g1 (.cells #[.int .i64 3] 3)] from hO)
 clear hO
 have r1 := run_bsI1 3
 have hQ := HO.out.toRowQ 1 1 1 rfl rfl (by decide)
 replace HO := Lib.hid (show Own w D x5 [glR g, rowVs (.slice (some ⟨g1, 0, none⟩) 1 1) [3]] from hQ)
 clear hQ
 go_wp2_with fail
 refine (rnew_o (xs := [3]) (n := 1) (sd := 0) HO.out 1 rfl rfl (by decide) (by decide) (fun j k hj hk h => by simp at hj hk; omega) (by decide) (by decide)).mono ?_
 rintro e x6 ⟨a, rfl, hO, -⟩
 replace hO := newZ hO
 replace HO := Lib.hid (show Own _ _ _ [_, _, resZ a (niZ [])] from hO)
 clear hO r1
 clear hx5 hg1
 have hO := HO.out.toEnd 3 [2, 0] rfl rfl
 replace HO := Lib.hid (show Own _ _ _ [resZ a (niZ []), glR g] from hO)
 clear hO
 go_wp2_with fail
 clear hn0 hn1 hmn
 generalize s.extract 0 nl = t at *
 obtain ⟨rv, hrv⟩ : ∃ b, vname t = b := ⟨_, rfl⟩
 have HR := Lib.hid (fun w => vn19_r hrv w)
 cases rv with
 | false =>
  refine (o_still HO.out (resolve_name 0 _ hrv HNS.out)).mono ?_
  rintro e x7 ⟨rfl, hO, -⟩
  replace HO := Lib.hid (show Own w D x7 [resZ a (niZ []), glR g] from hO)
  clear hO
  have HWL := Lib.hid (show ∃ wl : List (Nat × Lk), wl.length = 0 ∧ (∀ p ∈ wl, LkOk p.2) ∧ Own w D x7 [resZ a (niZ wl), glR g] from ⟨[], rfl, fun p hp => (by cases hp), HO.out⟩)
  go_wp2_with fail
  refine (o_still HO.out (HR.out _)).mono ?_
  rintro e x20 ⟨rfl, hO, -⟩
  replace HWL := Lib.hid (show ∃ wl : List (Nat × Lk), wl.length = 0 ∧ (∀ p ∈ wl, LkOk p.2) ∧ Own w D x20 [resZ a (niZ wl), glR g] from ⟨[], rfl, fun p hp => (by cases hp), hO⟩)
  clear hO HO HR
  go_wp2
  go_loopw [21, 22] (fun mv iv wr => ∃ (i m : Nat) (wl : List (Nat × Lk)), iv = .int .i64 (i : Int) ∧ mv = .int .i64 (m : Int) ∧ i ≤ 12 ∧ m ≤ i ∧ (m = i ∨ m + 0 = 8) ∧ (wl.length = m + 0 ∧ wl.length ≤ 8) ∧ (∀ p ∈ wl, LkOk p.2) ∧ Own w D wr [resZ a (niZ wl), glR g]) (fun _ iv _ => 12 - (intOf iv).toNat)
  case atStart =>
   obtain ⟨wl, h1, h2, h3⟩ := HWL.out
   exact ⟨0, 0, wl, rfl, rfl, by omega, by omega, .inl rfl, ⟨by omega, by omega⟩, h2, h3⟩
  case round =>
   obtain ⟨i, m, wl, rfl, rfl, hi, hmi, hme, hwl, hlk, hO⟩ := hrel
   have HO := Lib.hid hO
   have HK := Lib.hid hlk
   have HL := Lib.hid (show wl.length ≤ 8 ∧ wl.length = m + 0 from ⟨hwl.2, hwl.1⟩)
   clear hO hlk HWL
   by_cases hlt : i < 12
   ·
    have hd : decide ((i : Int) < 12) = true := decide_eq_true (by omega)
    have HV := Lib.hid (nmN_v hlt)
    obtain ⟨x101, hx101, gb, hgb, hO⟩ := HO.out.allocE (.cells #[.int .u8 (97 + (i : Int))] 5)
    replace HO := Lib.hid (show Own w D x101 [resZ a (niZ wl), glR g, blkR gb (.cells #[.int .u8 (97 + (i : Int))] 5)] from hO)
    clear hO
    have rc := conv_bytes (l := [UInt8.ofNat (97 + i)]) (g := gb) (n := 1) (cap := 1) (by have := (HO.out.toRowQ 2 1 1 rfl rfl (by decide)).row 2 rfl; rw [nmN_cells hlt] at this; exact this)
    have r2 := run_bsB (97 + (i : Int))
    go_wp2_with fail
    rw [nmN_eq hlt]
    clear rc r2
    have hO := HO.out.toEnd 3 [0, 1] rfl rfl
    replace HO := Lib.hid (show Own _ _ _ [_, _] from hO)
    clear hO
    clear hx101 hgb
    by_cases h8 : wl.length < 8
    ·
     generalize hnm : nmN i = nm at *
     clear hnm
     refine (ni_resolveF (wl := wl) (nm := nm) HO.out HV.out h8 HK.out).mono ?_
     rintro e x102 ⟨bz, ux102, rfl, hO, -⟩
     replace HO := Lib.hid (show Own w D x102 [resZ a (niZ (niN wl bz nm)), glR g] from hO)
     clear hO
     have HK2 := Lib.hid (niN_lk bz HV.out HK.out)
     have HL2 := Lib.hid (niN_len wl bz nm)
     go_wp2
     go_roundw
     case rel => exact ⟨i + 1, m + 1, niN wl bz nm, by go_num, by go_num, by omega, by omega, by omega, ⟨by rw [HL2.out]; omega, by rw [HL2.out]; omega⟩, HK2.out, HO.out⟩
     case measure => simp [intOf]; omega
    ·
     have hm8 : m + 0 = 8 := by omega
     refine (o_still HO.out (resolve_many 0 HO.out HV.out (by have := (show (nmN i).size = 2 from rfl); unfold maxLen; omega) (fun e => by cases e) (by show wl.length = 8; omega))).mono ?_
     rintro e x102 ⟨rfl, hO, -⟩
     replace HO := Lib.hid (show Own _ _ _ [resZ a (niZ wl), _] from hO)
     clear hO
     go_wp2
     go_roundw
     case rel => exact ⟨i + 1, m, wl, by go_num, rfl, by omega, by omega, .inr (by omega), hwl, HK.out, HO.out⟩
     case measure => simp [intOf]; omega
   ·
    have hd : decide ((i : Int) < 12) = false := decide_eq_false (by omega)
    obtain rfl : m = 8 := by omega
    have HS := Lib.hid (sizes_z HO.out)
    have h8 : wl.length = 8 := by omega
    rw [show (niZ wl).wl.length = 8 from h8, show (niZ wl).es.length = 0 from rfl] at HS
    go_wp2_with fail
    refine HS.out.mono ?_
    rintro e x201 ⟨rfl, hO, -⟩
    replace HO := Lib.hid hO
    clear hO HS HL HK hwl h8
    go_wp2
    go_ret
    exact ⟨rfl, HO.out.toEnd 2 [1] rfl rfl, HO.out.size⟩
 | true =>
  refine (ni_resolveF (wl := []) (nm := t) HO.out hrv (by show 0 < 8; decide) (fun p hp => (by cases hp))).mono ?_
  rintro e x7 ⟨b1, ux7, rfl, hO, -⟩
  replace HO := Lib.hid (show Own _ _ _ [resZ a (niZ (niN [] b1 t)), _] from hO)
  clear hO
  have HWL := Lib.hid (show ∃ wl : List (Nat × Lk), wl.length = 1 ∧ (∀ p ∈ wl, LkOk p.2) ∧ Own w D x7 [resZ a (niZ wl), glR g] from ⟨niN [] b1 t, rfl, niN_lk b1 hrv (fun p hp => (by cases hp)), HO.out⟩)
  go_wp2_with fail
  refine (o_still HO.out (HR.out _)).mono ?_
  rintro e x20 ⟨rfl, hO, -⟩
  replace HWL := Lib.hid (show ∃ wl : List (Nat × Lk), wl.length = 1 ∧ (∀ p ∈ wl, LkOk p.2) ∧ Own w D x20 [resZ a (niZ wl), glR g] from ⟨niN [] b1 t, rfl, niN_lk b1 hrv (fun p hp => (by cases hp)), hO⟩)
  clear hO HO HR
  go_wp2
  go_loopw [21, 22] (fun mv iv wr => ∃ (i m : Nat) (wl : List (Nat × Lk)), iv = .int .i64 (i : Int) ∧ mv = .int .i64 (m : Int) ∧ i ≤ 12 ∧ m ≤ i ∧ (m = i ∨ m + 1 = 8) ∧ (wl.length = m + 1 ∧ wl.length ≤ 8) ∧ (∀ p ∈ wl, LkOk p.2) ∧ Own w D wr [resZ a (niZ wl), glR g]) (fun _ iv _ => 12 - (intOf iv).toNat)
  case atStart =>
   obtain ⟨wl, h1, h2, h3⟩ := HWL.out
   exact ⟨0, 0, wl, rfl, rfl, by omega, by omega, .inl rfl, ⟨by omega, by omega⟩, h2, h3⟩
  case round =>
   obtain ⟨i, m, wl, rfl, rfl, hi, hmi, hme, hwl, hlk, hO⟩ := hrel
   have HO := Lib.hid hO
   have HK := Lib.hid hlk
   have HL := Lib.hid (show wl.length ≤ 8 ∧ wl.length = m + 1 from ⟨hwl.2, hwl.1⟩)
   clear hO hlk HWL
   by_cases hlt : i < 12
   ·
    have hd : decide ((i : Int) < 12) = true := decide_eq_true (by omega)
    have HV := Lib.hid (nmN_v hlt)
    obtain ⟨x101, hx101, gb, hgb, hO⟩ := HO.out.allocE (.cells #[.int .u8 (97 + (i : Int))] 5)
    replace HO := Lib.hid (show Own w D x101 [resZ a (niZ wl), glR g, blkR gb (.cells #[.int .u8 (97 + (i : Int))] 5)] from hO)
    clear hO
    have rc := conv_bytes (l := [UInt8.ofNat (97 + i)]) (g := gb) (n := 1) (cap := 1) (by have := (HO.out.toRowQ 2 1 1 rfl rfl (by decide)).row 2 rfl; rw [nmN_cells hlt] at this; exact this)
    have r2 := run_bsB (97 + (i : Int))
    go_wp2_with fail
    rw [nmN_eq hlt]
    clear rc r2
    have hO := HO.out.toEnd 3 [0, 1] rfl rfl
    replace HO := Lib.hid (show Own _ _ _ [_, _] from hO)
    clear hO
    clear hx101 hgb
    by_cases h8 : wl.length < 8
    ·
     generalize hnm : nmN i = nm at *
     clear hnm
     refine (ni_resolveF (wl := wl) (nm := nm) HO.out HV.out h8 HK.out).mono ?_
     rintro e x102 ⟨bz, ux102, rfl, hO, -⟩
     replace HO := Lib.hid (show Own w D x102 [resZ a (niZ (niN wl bz nm)), glR g] from hO)
     clear hO
     have HK2 := Lib.hid (niN_lk bz HV.out HK.out)
     have HL2 := Lib.hid (niN_len wl bz nm)
     go_wp2
     go_roundw
     case rel => exact ⟨i + 1, m + 1, niN wl bz nm, by go_num, by go_num, by omega, by omega, by omega, ⟨by rw [HL2.out]; omega, by rw [HL2.out]; omega⟩, HK2.out, HO.out⟩
     case measure => simp [intOf]; omega
    ·
     have hm8 : m + 1 = 8 := by omega
     refine (o_still HO.out (resolve_many 0 HO.out HV.out (by have := (show (nmN i).size = 2 from rfl); unfold maxLen; omega) (fun e => by cases e) (by show wl.length = 8; omega))).mono ?_
     rintro e x102 ⟨rfl, hO, -⟩
     replace HO := Lib.hid (show Own _ _ _ [resZ a (niZ wl), _] from hO)
     clear hO
     go_wp2
     go_roundw
     case rel => exact ⟨i + 1, m, wl, by go_num, rfl, by omega, by omega, .inr (by omega), hwl, HK.out, HO.out⟩
     case measure => simp [intOf]; omega
   ·
    have hd : decide ((i : Int) < 12) = false := decide_eq_false (by omega)
    obtain rfl : m = 7 := by omega
    have HS := Lib.hid (sizes_z HO.out)
    have h8 : wl.length = 8 := by omega
    rw [show (niZ wl).wl.length = 8 from h8, show (niZ wl).es.length = 0 from rfl] at HS
    go_wp2_with fail
    refine HS.out.mono ?_
    rintro e x201 ⟨rfl, hO, -⟩
    replace HO := Lib.hid hO
    clear hO HS HL HK hwl h8
    go_wp2
    go_ret
    exact ⟨rfl, HO.out.toEnd 2 [1] rfl rfl, HO.out.size⟩
end
end Go.Proofs.YtbolfkojebbejaaGreatDoor
