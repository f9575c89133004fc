/- Contracts of check and checkRecord. -/
import Derived.Test.YtbolfkojebbejaaGreatDoorBe
import Derived.Test.YtbolfkojebbejaaGreatDoorVn
import Derived.Test.YtbolfkojebbejaaGreatDoorBc
set_option linter.unusedVariables false
set_option maxRecDepth 100000
set_option maxHeartbeats 32000000
namespace Go.Proofs.YtbolfkojebbejaaGreatDoor
open Go.RowKit Go.Sort

variable {w0 w : World} {D : Nat → Prop} {L : List Res} {nm : ByteArray} {l : List En}
def cellR (g : Nat) (v : Value) : Res where
 P w F := (∀ x, F x ↔ x = g) ∧ w.cell? ⟨g, 0, none⟩ = some v
 bound h x hx := by rw [(h.1 x).1 hx]; exact block_lt_of_cell h.2
 move h hu hF := ⟨h.1, hu.keep (hF _ ((h.1 _).2 rfl)) h.2⟩
theorem Own.at (h : Own w0 D w L) (i : Nat) {g : Nat} {v : Value} (hi : L[i]? = some (cellR g v)) : w.cell? ⟨g, 0, none⟩ = some v := by
 obtain ⟨F, h1, _⟩ := h.step hi; exact h1.2
abbrev errV (a : Addr) : Value := .iface 361 (.pointer (some a))
abbrev errG : Nat := 0
def chkF (now : Int) (nm : ByteArray) (tt : Int) : Bool := decide (0 ≤ now) && decide (now ≤ 1000000000) && decide (0 ≤ tt) && decide (tt ≤ 1000) && vname nm
def adrOk (a : Int) : Bool := decide (0 ≤ a) && decide (a ≤ 4294967295)
def recB (now : Int) (r : Rc) : Bool := ((decide (r.kd = 1) && adrOk r.ad && decide (r.to.toList = [])) || (decide (r.kd = 2) && vname r.to && decide (r.ad = 0))) && chkF now r.nm r.tt
def chkV (b : Bool) (a : Addr) : Value := if b then .nilIface else errV a
theorem adr_any (a : Int) (w : World) : Calls Tryz.prog 127 #[.int .i64 a] w fun e w' => e = .returned (.bool (adrOk a)) ∧ w = w' := by
 unfold adrOk
 go_enter Tryz.func127, Tryz.ntmps127
 go_wp2
 all_goals (go_ret; refine ⟨ret_bool ?_, rfl⟩; first | (rw [Bool.eq_iff_iff]; done) | (rw [Bool.eq_iff_iff]; simp; done) | (rw [Bool.eq_iff_iff]; simp; omega))
theorem adr_r {a : Int} {b : Bool} (h : adrOk a = b) (w : World) : Calls Tryz.prog 127 #[.int .i64 a] w fun e w' => e = .returned (.bool b) ∧ w = w' := h ▸ adr_any a w
theorem vname_r {s : ByteArray} {b : Bool} (h : vname s = b) (hs : s.size ≤ maxLen) (w : World) : Calls Tryz.prog 56 #[.string s] w fun e w' => e = .returned (.bool b) ∧ Below w.heap.size w w' := h ▸ vname_any s w hs
theorem chkc_any (now : Int) (nm : ByteArray) (tt : Int) (a : Addr) (w : World) (hs : nm.size ≤ maxLen) (hg : w.cell? ⟨errG, 0, none⟩ = some (errV a)) :
  Calls Tryz.prog 168 #[.int .i64 now, .string nm, .int .i64 tt] w fun e w' => e = .returned (chkV (chkF now nm tt) a) ∧ Below w.heap.size w w' := by
 have HG := Hi hg
 have HS := Hi hs
 clear hg hs
 by_cases hq : 0 ≤ now ∧ now ≤ 1000000000 ∧ 0 ≤ tt ∧ tt ≤ 1000
 ·
  obtain ⟨q1, q2, q3, q4⟩ := hq
  cases hv : vname nm with
  | false =>
   have HR := Hi (show chkF now nm tt = false by unfold chkF; simp [hv])
   have HV := Hi hv
   clear hv
   go_enter Tryz.func168, Tryz.ntmps168
   go_wp2_with fail
   refine (vname_r HV.out HS.out _).mono ?_
   rintro e w1 ⟨rfl, hb⟩
   have hg := keep hb HG.out
   go_wp2
   go_ret
   exact ⟨by rw [HR.out]; rfl, hb⟩
  | true =>
   have HR := Hi (show chkF now nm tt = true by unfold chkF; simp [hv, q1, q2, q3, q4])
   have HV := Hi hv
   clear hv
   go_enter Tryz.func168, Tryz.ntmps168
   go_wp2_with fail
   refine (vname_r HV.out HS.out _).mono ?_
   rintro e w1 ⟨rfl, hb⟩
   go_wp2
   go_ret
   exact ⟨by rw [HR.out]; rfl, hb⟩
 ·
  have HR := Hi (show chkF now nm tt = false by
   unfold chkF
   rw [Bool.eq_false_iff]
   simp only [ne_eq, Bool.and_eq_true, decide_eq_true_eq]
   omega)
  have hg := HG.out
  by_cases q1 : 0 ≤ now
  ·
   by_cases q2 : now ≤ 1000000000
   ·
    by_cases q3 : 0 ≤ tt
    ·
     have q4 : ¬ tt ≤ 1000 := by omega
     clear hq
     go_enter Tryz.func168, Tryz.ntmps168
     go_wp2
     go_ret
     exact ⟨by rw [HR.out]; rfl, Below.refl _ _⟩
    ·
     clear hq
     go_enter Tryz.func168, Tryz.ntmps168
     go_wp2
     go_ret
     exact ⟨by rw [HR.out]; rfl, Below.refl _ _⟩
   ·
    clear hq
    go_enter Tryz.func168, Tryz.ntmps168
    go_wp2
    go_ret
    exact ⟨by rw [HR.out]; rfl, Below.refl _ _⟩
  ·
   clear hq
   go_enter Tryz.func168, Tryz.ntmps168
   go_wp2
   go_ret
   exact ⟨by rw [HR.out]; rfl, Below.refl _ _⟩
theorem chkc_r {now : Int} {tt : Int} {b : Bool} (h : chkF now nm tt = b) (a : Addr) (w : World) (hs : nm.size ≤ maxLen) (hg : w.cell? ⟨errG, 0, none⟩ = some (errV a)) :
  Calls Tryz.prog 168 #[.int .i64 now, .string nm, .int .i64 tt] w fun e w' => e = .returned (chkV b a) ∧ Below w.heap.size w w' := h ▸ chkc_any now nm tt a w hs hg
def recA (r : Rc) : Bool := (decide (r.kd = 1) && adrOk r.ad && decide (r.to.toList = [])) || (decide (r.kd = 2) && vname r.to && decide (r.ad = 0))
theorem recB_eq (now : Int) (r : Rc) : recB now r = (recA r && chkF now r.nm r.tt) := rfl
def crPost (v : Value) (w : World) (e : Ending) (w' : World) : Prop := e = .returned v ∧ Below w.heap.size w w'
theorem chr_1 (now : Int) (nm : ByteArray) (kd tt ad : Int) (to : ByteArray) (a : Addr) (w : World) (hn : nm.size ≤ maxLen) (ht : to.size ≤ maxLen) (hg : w.cell? ⟨errG, 0, none⟩ = some (errV a)) (h1 : kd = 1) (h2 : adrOk ad = true) (h3 : to.toList = []) :
  Calls Tryz.prog 172 #[.int .i64 now, .agg #[.string nm, .int .i64 kd, .int .i64 tt, .int .i64 ad, .string to]] w (crPost (chkV (chkF now nm tt) a) w) := by
 have HG := Hi hg
 have HN := Hi hn
 have HT := Hi ht
 clear hg hn ht
 have HO := Hi (Own.nil w none0)
 subst h1
 have H2 := Hi h2
 clear h2
 have H3 := h3
 obtain ⟨x1, hx1, bx, hbx, hO⟩ := HO.out.allocE (.cells #[.string nm, .int .i64 1, .int .i64 tt, .int .i64 ad, .string to] 49)
 replace HO := Hi (show Own w none0 x1 [blkR bx (.cells #[.string nm, .int .i64 1, .int .i64 tt, .int .i64 ad, .string to] 49)] from hO)
 clear hO
 obtain ⟨z0_0, z0_1, z0_2, z0_3, z0_4⟩ := HO.out.c5 0 rfl
 have hg := keep HO.out.below HG.out
 go_enter Tryz.func172, Tryz.ntmps172
 go_wp2_with fail
 refine (adr_r H2.out _).mono ?_
 rintro e xp ⟨rfl, rfl⟩
 go_wp2_with fail
 refine (chkc_any _ _ _ a _ HN.out hg).mono ?_
 rintro e x9 ⟨rfl, hb⟩
 go_wp2
 go_ret
 exact ⟨rfl, (HO.out.stay hb).below⟩
theorem chr_2 (now : Int) (nm : ByteArray) (kd tt ad : Int) (to : ByteArray) (a : Addr) (w : World) (hn : nm.size ≤ maxLen) (ht : to.size ≤ maxLen) (hg : w.cell? ⟨errG, 0, none⟩ = some (errV a)) (h1 : kd = 1) (h2 : adrOk ad = true) (h3 : to.toList ≠ []) :
  Calls Tryz.prog 172 #[.int .i64 now, .agg #[.string nm, .int .i64 kd, .int .i64 tt, .int .i64 ad, .string to]] w (crPost (errV a) w) := by
 have HG := Hi hg
 have HN := Hi hn
 have HT := Hi ht
 clear hg hn ht
 have HO := Hi (Own.nil w none0)
 subst h1
 have H2 := Hi h2
 clear h2
 have h3b : to.toList.isEmpty = false := by simpa using h3
 obtain ⟨x1, hx1, bx, hbx, hO⟩ := HO.out.allocE (.cells #[.string nm, .int .i64 1, .int .i64 tt, .int .i64 ad, .string to] 49)
 replace HO := Hi (show Own w none0 x1 [blkR bx (.cells #[.string nm, .int .i64 1, .int .i64 tt, .int .i64 ad, .string to] 49)] from hO)
 clear hO
 obtain ⟨z0_0, z0_1, z0_2, z0_3, z0_4⟩ := HO.out.c5 0 rfl
 have hg := keep HO.out.below HG.out
 go_enter Tryz.func172, Tryz.ntmps172
 go_wp2_with fail
 refine (adr_r H2.out _).mono ?_
 rintro e xp ⟨rfl, rfl⟩
 go_wp2
 go_ret
 exact ⟨rfl, HO.out.below⟩
theorem chr_3 (now : Int) (nm : ByteArray) (kd tt ad : Int) (to : ByteArray) (a : Addr) (w : World) (hn : nm.size ≤ maxLen) (ht : to.size ≤ maxLen) (hg : w.cell? ⟨errG, 0, none⟩ = some (errV a)) (h1 : kd = 1) (h2 : adrOk ad = false) :
  Calls Tryz.prog 172 #[.int .i64 now, .agg #[.string nm, .int .i64 kd, .int .i64 tt, .int .i64 ad, .string to]] w (crPost (errV a) w) := by
 have HG := Hi hg
 have HN := Hi hn
 have HT := Hi ht
 clear hg hn ht
 have HO := Hi (Own.nil w none0)
 subst h1
 have H2 := Hi h2
 clear h2
 obtain ⟨x1, hx1, bx, hbx, hO⟩ := HO.out.allocE (.cells #[.string nm, .int .i64 1, .int .i64 tt, .int .i64 ad, .string to] 49)
 replace HO := Hi (show Own w none0 x1 [blkR bx (.cells #[.string nm, .int .i64 1, .int .i64 tt, .int .i64 ad, .string to] 49)] from hO)
 clear hO
 obtain ⟨z0_0, z0_1, z0_2, z0_3, z0_4⟩ := HO.out.c5 0 rfl
 have hg := keep HO.out.below HG.out
 go_enter Tryz.func172, Tryz.ntmps172
 go_wp2_with fail
 refine (adr_r H2.out _).mono ?_
 rintro e xp ⟨rfl, rfl⟩
 go_wp2
 go_ret
 exact ⟨rfl, HO.out.below⟩
theorem chr_4 (now : Int) (nm : ByteArray) (kd tt ad : Int) (to : ByteArray) (a : Addr) (w : World) (hn : nm.size ≤ maxLen) (ht : to.size ≤ maxLen) (hg : w.cell? ⟨errG, 0, none⟩ = some (errV a)) (h1 : kd = 2) (h2 : vname to = true) (h3 : ad = 0) :
  Calls Tryz.prog 172 #[.int .i64 now, .agg #[.string nm, .int .i64 kd, .int .i64 tt, .int .i64 ad, .string to]] w (crPost (chkV (chkF now nm tt) a) w) := by
 have HG := Hi hg
 have HN := Hi hn
 have HT := Hi ht
 clear hg hn ht
 have HO := Hi (Own.nil w none0)
 subst h1
 subst h3
 have H2 := Hi h2
 clear h2
 obtain ⟨x1, hx1, bx, hbx, hO⟩ := HO.out.allocE (.cells #[.string nm, .int .i64 2, .int .i64 tt, .int .i64 0, .string to] 49)
 replace HO := Hi (show Own w none0 x1 [blkR bx (.cells #[.string nm, .int .i64 2, .int .i64 tt, .int .i64 0, .string to] 49)] from hO)
 clear hO
 obtain ⟨z0_0, z0_1, z0_2, z0_3, z0_4⟩ := HO.out.c5 0 rfl
 have hg := keep HO.out.below HG.out
 go_enter Tryz.func172, Tryz.ntmps172
 go_wp2_with fail
 refine (vname_r H2.out HT.out _).mono ?_
 rintro e x8 ⟨rfl, hb⟩
 have hO := HO.out.stay hb
 replace HO := Hi hO
 clear hO
 clear hg hb hx1 hbx z0_0 z0_1 z0_2 z0_3 z0_4
 obtain ⟨z0_0, z0_1, z0_2, z0_3, z0_4⟩ := HO.out.c5 0 rfl
 have hg := keep HO.out.below HG.out
 go_wp2_with fail
 refine (chkc_any _ _ _ a _ HN.out hg).mono ?_
 rintro e x9 ⟨rfl, hb⟩
 go_wp2
 go_ret
 exact ⟨rfl, (HO.out.stay hb).below⟩
theorem chr_5 (now : Int) (nm : ByteArray) (kd tt ad : Int) (to : ByteArray) (a : Addr) (w : World) (hn : nm.size ≤ maxLen) (ht : to.size ≤ maxLen) (hg : w.cell? ⟨errG, 0, none⟩ = some (errV a)) (h1 : kd = 2) (h2 : vname to = true) (h3 : ad ≠ 0) :
  Calls Tryz.prog 172 #[.int .i64 now, .agg #[.string nm, .int .i64 kd, .int .i64 tt, .int .i64 ad, .string to]] w (crPost (errV a) w) := by
 have HG := Hi hg
 have HN := Hi hn
 have HT := Hi ht
 clear hg hn ht
 have HO := Hi (Own.nil w none0)
 subst h1
 have H2 := Hi h2
 clear h2
 obtain ⟨x1, hx1, bx, hbx, hO⟩ := HO.out.allocE (.cells #[.string nm, .int .i64 2, .int .i64 tt, .int .i64 ad, .string to] 49)
 replace HO := Hi (show Own w none0 x1 [blkR bx (.cells #[.string nm, .int .i64 2, .int .i64 tt, .int .i64 ad, .string to] 49)] from hO)
 clear hO
 obtain ⟨z0_0, z0_1, z0_2, z0_3, z0_4⟩ := HO.out.c5 0 rfl
 have hg := keep HO.out.below HG.out
 go_enter Tryz.func172, Tryz.ntmps172
 go_wp2_with fail
 refine (vname_r H2.out HT.out _).mono ?_
 rintro e x8 ⟨rfl, hb⟩
 have hO := HO.out.stay hb
 replace HO := Hi hO
 clear hO
 clear hg hb hx1 hbx z0_0 z0_1 z0_2 z0_3 z0_4
 obtain ⟨z0_0, z0_1, z0_2, z0_3, z0_4⟩ := HO.out.c5 0 rfl
 have hg := keep HO.out.below HG.out
 go_wp2
 go_ret
 exact ⟨rfl, HO.out.below⟩
theorem chr_6 (now : Int) (nm : ByteArray) (kd tt ad : Int) (to : ByteArray) (a : Addr) (w : World) (hn : nm.size ≤ maxLen) (ht : to.size ≤ maxLen) (hg : w.cell? ⟨errG, 0, none⟩ = some (errV a)) (h1 : kd = 2) (h2 : vname to = false) :
  Calls Tryz.prog 172 #[.int .i64 now, .agg #[.string nm, .int .i64 kd, .int .i64 tt, .int .i64 ad, .string to]] w (crPost (errV a) w) := by
 have HG := Hi hg
 have HN := Hi hn
 have HT := Hi ht
 clear hg hn ht
 have HO := Hi (Own.nil w none0)
 subst h1
 have H2 := Hi h2
 clear h2
 obtain ⟨x1, hx1, bx, hbx, hO⟩ := HO.out.allocE (.cells #[.string nm, .int .i64 2, .int .i64 tt, .int .i64 ad, .string to] 49)
 replace HO := Hi (show Own w none0 x1 [blkR bx (.cells #[.string nm, .int .i64 2, .int .i64 tt, .int .i64 ad, .string to] 49)] from hO)
 clear hO
 obtain ⟨z0_0, z0_1, z0_2, z0_3, z0_4⟩ := HO.out.c5 0 rfl
 have hg := keep HO.out.below HG.out
 go_enter Tryz.func172, Tryz.ntmps172
 go_wp2_with fail
 refine (vname_r H2.out HT.out _).mono ?_
 rintro e x8 ⟨rfl, hb⟩
 have hO := HO.out.stay hb
 replace HO := Hi hO
 clear hO
 clear hg hb hx1 hbx z0_0 z0_1 z0_2 z0_3 z0_4
 obtain ⟨z0_0, z0_1, z0_2, z0_3, z0_4⟩ := HO.out.c5 0 rfl
 have hg := keep HO.out.below HG.out
 go_wp2
 go_ret
 exact ⟨rfl, HO.out.below⟩
theorem chr_7 (now : Int) (nm : ByteArray) (kd tt ad : Int) (to : ByteArray) (a : Addr) (w : World) (hn : nm.size ≤ maxLen) (ht : to.size ≤ maxLen) (hg : w.cell? ⟨errG, 0, none⟩ = some (errV a)) (h1 : kd ≠ 1) (h2 : kd ≠ 2) :
  Calls Tryz.prog 172 #[.int .i64 now, .agg #[.string nm, .int .i64 kd, .int .i64 tt, .int .i64 ad, .string to]] w (crPost (errV a) w) := by
 have HG := Hi hg
 have HN := Hi hn
 have HT := Hi ht
 clear hg hn ht
 have HO := Hi (Own.nil w none0)
 obtain ⟨x1, hx1, bx, hbx, hO⟩ := HO.out.allocE (.cells #[.string nm, .int .i64 kd, .int .i64 tt, .int .i64 ad, .string to] 49)
 replace HO := Hi (show Own w none0 x1 [blkR bx (.cells #[.string nm, .int .i64 kd, .int .i64 tt, .int .i64 ad, .string to] 49)] from hO)
 clear hO
 obtain ⟨z0_0, z0_1, z0_2, z0_3, z0_4⟩ := HO.out.c5 0 rfl
 have hg := keep HO.out.below HG.out
 go_enter Tryz.func172, Tryz.ntmps172
 go_wp2
 go_ret
 exact ⟨rfl, HO.out.below⟩
theorem chr_any (now : Int) (r : Rc) (a : Addr) (w : World) (hn : r.nm.size ≤ maxLen) (ht : r.to.size ≤ maxLen) (hg : w.cell? ⟨errG, 0, none⟩ = some (errV a)) :
  Calls Tryz.prog 172 #[.int .i64 now, rcV r] w (crPost (chkV (recB now r) a) w) := by
 rw [recB_eq]
 obtain ⟨nm, kd, tt, ad, to⟩ := r
 simp only [recA]
 by_cases k1 : kd = 1
 ·
  have k2 : ¬ kd = 2 := by omega
  cases h2 : adrOk ad with
  | false => simpa [k1, k2, h2, chkV] using chr_3 now nm kd tt ad to a w hn ht hg k1 h2
  | true =>
   by_cases h3 : to.toList = []
   ·
    simpa [k1, k2, h2, h3, chkV] using chr_1 now nm kd tt ad to a w hn ht hg k1 h2 h3
   ·
    simpa [k1, k2, h2, h3, chkV] using chr_2 now nm kd tt ad to a w hn ht hg k1 h2 h3
 ·
  by_cases k2 : kd = 2
  ·
   cases h2 : vname to with
   | false => simpa [k1, k2, h2, chkV] using chr_6 now nm kd tt ad to a w hn ht hg k2 h2
   | true =>
    by_cases h3 : ad = 0
    ·
     simpa [k1, k2, h2, h3, chkV] using chr_4 now nm kd tt ad to a w hn ht hg k2 h2 h3
    ·
     simpa [k1, k2, h2, h3, chkV] using chr_5 now nm kd tt ad to a w hn ht hg k2 h2 h3
  ·
   simpa [k1, k2, chkV] using chr_7 now nm kd tt ad to a w hn ht hg k1 k2
theorem chr_r {now : Int} {r : Rc} {b : Bool} (h : recB now r = b) (a : Addr) (w : World) (hn : r.nm.size ≤ maxLen) (ht : r.to.size ≤ maxLen) (hg : w.cell? ⟨errG, 0, none⟩ = some (errV a)) :
  Calls Tryz.prog 172 #[.int .i64 now, rcV r] w fun e w' => e = .returned (chkV b a) ∧ Below w.heap.size w w' := h ▸ chr_any now r a w hn ht hg
theorem resC_apart {F : Nat → Prop} {c : Nat} {b : Nat} {cs : Array Value} {t : TypeId} (h : (resC c l).P w F) (hb : w.heap[b]? = some (.cells cs t)) (h1 : t ≠ 201) (h2 : t ≠ 215) : ¬ F b := by
 intro hF
 obtain ⟨v, Fs, k1, _, k3⟩ := h
 obtain ⟨i, hi, hf⟩ := (k3 b).1 hF
 match i, hi with
 | 0, _ =>
  have := k1 0 (blkC c v) rfl
  have e := (this.1 b).1 hf
  have hh := this.2
  rw [e] at hb
  rw [hh] at hb
  cases hb
  exact h1 rfl
 | 1, _ =>
  have := k1 1 (rowE v l) rfl
  have hx' := (this.1 b).1 hf
  obtain ⟨_, ⟨e, _⟩ | ⟨g, c', cur, e, _, hh, _⟩⟩ := this.2
  ·
   rw [e] at hx'; cases hx'
  ·
   rw [e] at hx'; cases hx'
   rw [hh] at hb; cases hb
   exact h2 rfl
def ownK (r : Rc) : Ky := ⟨r.nm, r.kd, r.ad, r.to⟩
def noneK (nm : ByteArray) : Ky := ⟨nm, 0, 0, ⟨#[]⟩⟩
def putP (r : Rc) (x : En) : Bool := kyEq (keyE x) (ownK r) || kyEq (keyE x) (noneK r.nm)
def putE (now : Int) (r : Rc) : Int := if recB now r then 0 else 200
def putF (now : Int) (r : Rc) (l : List En) : List En := if recB now r && decide (r.tt ≠ 0) then storeF (l.filter fun x => !putP r x) ⟨r.nm, r.kd, r.ad, r.to, now + r.tt⟩ else l
theorem recB_bds {now : Int} {r : Rc} (h : recB now r = true) : (0 ≤ now ∧ now ≤ 1000000000) ∧ (0 ≤ r.tt ∧ r.tt ≤ 1000) := by
 simp only [recB, chkF, Bool.and_eq_true, decide_eq_true_eq] at h
 omega
theorem is_same' (a : Addr) (w : World) : Calls Tryz.prog 167 #[errV a, errV a] w fun e w' => e = .returned (.bool true) ∧ Below w.heap.size w w' := (is_same a w).mono fun e w' ⟨h1, h2⟩ => ⟨h1, h2 ▸ Below.refl _ _⟩
theorem is_nil' (a : Addr) (w : World) : Calls Tryz.prog 167 #[.nilIface, errV a] w fun e w' => e = .returned (.bool false) ∧ Below w.heap.size w w' := (is_nil a w).mono fun e w' ⟨h1, h2⟩ => ⟨h1, h2 ▸ Below.refl _ _⟩
theorem put_bad {c : Nat} {a : Addr} (now : Int) (nm : ByteArray) (kd tt ad : Int) (to : ByteArray) (HO0 : Own w D w [resC c l]) (hg0 : w.cell? ⟨errG, 0, none⟩ = some (errV a)) (hn : nm.size ≤ maxLen) (ht : to.size ≤ maxLen) (hl : l.length ≤ 32) (hr : recB now ⟨nm, kd, tt, ad, to⟩ = false) :
  Calls Tryz.prog 126 #[.pointer (some ⟨c, 0, none⟩), .int .i64 now, .agg #[.string nm, .int .i64 kd, .int .i64 tt, .int .i64 ad, .string to]] w (OPost w D [resC c (l)] (.int .i64 200) w) := by
 have HN := Hi hn
 have HT := Hi ht
 have HL := Hi hl
 have HR := Hi hr
 clear hn ht hl hr
 have HO := Hi HO0
 clear HO0
 obtain ⟨x1, hx1, bx, hbx, hO⟩ := HO.out.allocE (.cells #[.string nm, .int .i64 kd, .int .i64 tt, .int .i64 ad, .string to] 49)
 replace HO := Hi (show Own w D x1 [resC c l, blkR bx (.cells #[.string nm, .int .i64 kd, .int .i64 tt, .int .i64 ad, .string to] 49)] from hO)
 clear hO
 have HG := Hi (keep (by rw [← hx1]; exact below_one _ _ : Below w.heap.size w x1) hg0)
 clear hg0
 go_enter Tryz.func126, Tryz.ntmps126
 go_wp2
 clear hx1 hbx
 obtain ⟨g1_0, g1_1, g1_2, g1_3, g1_4⟩ := HO.out.g5 1 rfl
 have hg := HG.out
 have gg := cell_regrown hg
 clear hg
 refine wp_region_R 5 (by kernel_rfl) (by kernel_rfl) ?_
 simp only [List.take, List.drop]
 iterate 2 (first | (refine wpR_want (by kernel_rfl) rfl rfl ?_; intro K hK; go_big_quiet_op; go_big_quiet_on) | (refine wpR_is (by kernel_rfl) rfl _ (fun w _ => rfl) ?_; simp only [Act.put, l_T, l_S, l_Z]))
 refine wpR_call (by kernel_rfl) rfl 172 #[.int .i64 now, .agg #[.string nm, .int .i64 kd, .int .i64 tt, .int .i64 ad, .string to]] (errV a) (fun w => by simp [go_sem]) (fun w _ => chr_r (r := ⟨nm, kd, tt, ad, to⟩) HR.out a w HN.out HT.out (keep (by assumption) HG.out)) ?_
 simp only [Act.put, l_T, l_S, l_Z]
 iterate 1 (first | (refine wpR_want (by kernel_rfl) rfl rfl ?_; intro K hK; go_big_quiet_op; go_big_quiet_on) | (refine wpR_is (by kernel_rfl) rfl _ (fun w _ => rfl) ?_; simp only [Act.put, l_T, l_S, l_Z]))
 refine wpR_call (by kernel_rfl) rfl 167 #[errV a, errV a] (.bool true) (fun w => by simp [go_sem]) (fun w _ => is_same' a w) ?_
 simp only [Act.put, l_T, l_S, l_Z]
 refine wpR_nil (by kernel_rfl) (by simp) ?_
 rintro x5 hbw
 simp only [exAll]
 simp only [List.drop]
 have hO := HO.out.stay hbw
 replace HO := Hi hO
 clear hO hbw g1_0 g1_1 g1_2 g1_3 g1_4 gg HG
 go_wp2
 go_ret
 exact ⟨rfl, HO.out.take 1, HO.out.size⟩
theorem put_zero {c : Nat} {a : Addr} (now : Int) (nm : ByteArray) (kd tt ad : Int) (to : ByteArray) (HO0 : Own w D w [resC c l]) (hg0 : w.cell? ⟨errG, 0, none⟩ = some (errV a)) (hn : nm.size ≤ maxLen) (ht : to.size ≤ maxLen) (hl : l.length ≤ 32) (hr : recB now ⟨nm, kd, tt, ad, to⟩ = true) (h0 : tt = 0) :
  Calls Tryz.prog 126 #[.pointer (some ⟨c, 0, none⟩), .int .i64 now, .agg #[.string nm, .int .i64 kd, .int .i64 tt, .int .i64 ad, .string to]] w (OPost w D [resC c (l)] (.int .i64 0) w) := by
 have HN := Hi hn
 have HT := Hi ht
 have HL := Hi hl
 have HR := Hi hr
 clear hn ht hl hr
 have HO := Hi HO0
 clear HO0
 obtain ⟨x1, hx1, bx, hbx, hO⟩ := HO.out.allocE (.cells #[.string nm, .int .i64 kd, .int .i64 tt, .int .i64 ad, .string to] 49)
 replace HO := Hi (show Own w D x1 [resC c l, blkR bx (.cells #[.string nm, .int .i64 kd, .int .i64 tt, .int .i64 ad, .string to] 49)] from hO)
 clear hO
 have HG := Hi (keep (by rw [← hx1]; exact below_one _ _ : Below w.heap.size w x1) hg0)
 clear hg0
 have H0 := Hi h0
 clear h0
 go_enter Tryz.func126, Tryz.ntmps126
 go_wp2
 clear hx1 hbx
 obtain ⟨g1_0, g1_1, g1_2, g1_3, g1_4⟩ := HO.out.g5 1 rfl
 have hg := HG.out
 have gg := cell_regrown hg
 clear hg
 refine wp_region_R 5 (by kernel_rfl) (by kernel_rfl) ?_
 simp only [List.take, List.drop]
 iterate 2 (first | (refine wpR_want (by kernel_rfl) rfl rfl ?_; intro K hK; go_big_quiet_op; go_big_quiet_on) | (refine wpR_is (by kernel_rfl) rfl _ (fun w _ => rfl) ?_; simp only [Act.put, l_T, l_S, l_Z]))
 refine wpR_call (by kernel_rfl) rfl 172 #[.int .i64 now, .agg #[.string nm, .int .i64 kd, .int .i64 tt, .int .i64 ad, .string to]] (.nilIface) (fun w => by simp [go_sem]) (fun w _ => chr_r (r := ⟨nm, kd, tt, ad, to⟩) HR.out a w HN.out HT.out (keep (by assumption) HG.out)) ?_
 simp only [Act.put, l_T, l_S, l_Z]
 iterate 1 (first | (refine wpR_want (by kernel_rfl) rfl rfl ?_; intro K hK; go_big_quiet_op; go_big_quiet_on) | (refine wpR_is (by kernel_rfl) rfl _ (fun w _ => rfl) ?_; simp only [Act.put, l_T, l_S, l_Z]))
 refine wpR_call (by kernel_rfl) rfl 167 #[.nilIface, errV a] (.bool false) (fun w => by simp [go_sem]) (fun w _ => is_nil' a w) ?_
 simp only [Act.put, l_T, l_S, l_Z]
 refine wpR_nil (by kernel_rfl) (by simp) ?_
 rintro x5 hbw
 simp only [exAll]
 simp only [List.drop]
 have hO := HO.out.stay hbw
 replace HO := Hi hO
 clear hO hbw g1_0 g1_1 g1_2 g1_3 g1_4 gg HG
 obtain ⟨z1_0, z1_1, z1_2, z1_3, z1_4⟩ := HO.out.c5 1 rfl
 have e0 : (tt == 0) = true := by simpa using H0.out
 go_wp2
 go_ret
 exact ⟨rfl, HO.out.take 1, HO.out.size⟩
theorem put_ok {c : Nat} {a : Addr} (now : Int) (nm : ByteArray) (kd tt ad : Int) (to : ByteArray) (HO0 : Own w D w [resC c l]) (hg0 : w.cell? ⟨errG, 0, none⟩ = some (errV a)) (hn : nm.size ≤ maxLen) (ht : to.size ≤ maxLen) (hl : l.length ≤ 32) (hr : recB now ⟨nm, kd, tt, ad, to⟩ = true) (h0 : tt ≠ 0) :
  Calls Tryz.prog 126 #[.pointer (some ⟨c, 0, none⟩), .int .i64 now, .agg #[.string nm, .int .i64 kd, .int .i64 tt, .int .i64 ad, .string to]] w (OPost w D [resC c (storeF (l.filter fun x => !putP ⟨nm, kd, tt, ad, to⟩ x) ⟨nm, kd, ad, to, now + tt⟩)] (.int .i64 0) w) := by
 have HN := Hi hn
 have HT := Hi ht
 have HL := Hi hl
 have HR := Hi hr
 clear hn ht hl hr
 have HO := Hi HO0
 clear HO0
 obtain ⟨x1, hx1, bx, hbx, hO⟩ := HO.out.allocE (.cells #[.string nm, .int .i64 kd, .int .i64 tt, .int .i64 ad, .string to] 49)
 replace HO := Hi (show Own w D x1 [resC c l, blkR bx (.cells #[.string nm, .int .i64 kd, .int .i64 tt, .int .i64 ad, .string to] 49)] from hO)
 clear hO
 have HG := Hi (keep (by rw [← hx1]; exact below_one _ _ : Below w.heap.size w x1) hg0)
 clear hg0
 have H0 := Hi h0
 clear h0
 obtain ⟨hb1, hb2⟩ := recB_bds HR.out
 have HB := Hi (show (0 ≤ now ∧ now ≤ 1000000000) ∧ (0 ≤ tt ∧ tt ≤ 1000) from ⟨hb1, hb2⟩)
 clear hb1 hb2
 go_enter Tryz.func126, Tryz.ntmps126
 go_wp2
 clear hx1 hbx
 obtain ⟨g1_0, g1_1, g1_2, g1_3, g1_4⟩ := HO.out.g5 1 rfl
 have hg := HG.out
 have gg := cell_regrown hg
 clear hg
 refine wp_region_R 5 (by kernel_rfl) (by kernel_rfl) ?_
 simp only [List.take, List.drop]
 iterate 2 (first | (refine wpR_want (by kernel_rfl) rfl rfl ?_; intro K hK; go_big_quiet_op; go_big_quiet_on) | (refine wpR_is (by kernel_rfl) rfl _ (fun w _ => rfl) ?_; simp only [Act.put, l_T, l_S, l_Z]))
 refine wpR_call (by kernel_rfl) rfl 172 #[.int .i64 now, .agg #[.string nm, .int .i64 kd, .int .i64 tt, .int .i64 ad, .string to]] (.nilIface) (fun w => by simp [go_sem]) (fun w _ => chr_r (r := ⟨nm, kd, tt, ad, to⟩) HR.out a w HN.out HT.out (keep (by assumption) HG.out)) ?_
 simp only [Act.put, l_T, l_S, l_Z]
 iterate 1 (first | (refine wpR_want (by kernel_rfl) rfl rfl ?_; intro K hK; go_big_quiet_op; go_big_quiet_on) | (refine wpR_is (by kernel_rfl) rfl _ (fun w _ => rfl) ?_; simp only [Act.put, l_T, l_S, l_Z]))
 refine wpR_call (by kernel_rfl) rfl 167 #[.nilIface, errV a] (.bool false) (fun w => by simp [go_sem]) (fun w _ => is_nil' a w) ?_
 simp only [Act.put, l_T, l_S, l_Z]
 refine wpR_nil (by kernel_rfl) (by simp) ?_
 rintro x5 hbw
 simp only [exAll]
 simp only [List.drop]
 have hO := HO.out.stay hbw
 replace HO := Hi hO
 clear hO hbw g1_0 g1_1 g1_2 g1_3 g1_4 gg HG
 obtain ⟨z1_0, z1_1, z1_2, z1_3, z1_4⟩ := HO.out.c5 1 rfl
 have e0 : (tt == 0) = false := by simpa using H0.out
 obtain ⟨x2, hx2, bo, hbo, hO⟩ := HO.out.allocE (.cells #[.string ⟨#[]⟩, .int .i64 0, .int .i64 0, .string ⟨#[]⟩] 213)
 replace HO := Hi (show Own _ _ _ [_, _, blkR bo (.cells #[.string ⟨#[]⟩, .int .i64 0, .int .i64 0, .string ⟨#[]⟩] 213)] from hO)
 clear hO
 obtain ⟨x7, x11, x14, x16, hx7, hx11, hx14, hx16, k2_0_3, lk2_0_3, k2_1_8, lk2_1_8, k2_2_12, lk2_2_12, k2_3_15, lk2_3_15, hO⟩ := HO.out.steps4 2 rfl (.string nm) (.int .i64 kd) (.int .i64 ad) (.string to)
 replace HO := Hi (show Own _ _ _ [_, _, blkR bo (.cells #[.string nm, .int .i64 kd, .int .i64 ad, .string to] 213)] from hO)
 clear hO
 have z1_0t : x16.cell? _ = some (.string nm) := HO.out.cell 1 rfl 0 rfl
 obtain ⟨x17, hx17, bn, hbn, hO⟩ := HO.out.allocE (.cells #[.string ⟨#[]⟩, .int .i64 0, .int .i64 0, .string ⟨#[]⟩] 213)
 replace HO := Hi (show Own _ _ _ [_, _, _, blkR bn (.cells #[.string ⟨#[]⟩, .int .i64 0, .int .i64 0, .string ⟨#[]⟩] 213)] from hO)
 clear hO
 obtain ⟨x22, x26, x29, x31, hx22, hx26, hx29, hx31, k3_0_18, lk3_0_18, k3_1_23, lk3_1_23, k3_2_27, lk3_2_27, k3_3_30, lk3_3_30, hO⟩ := HO.out.steps4 3 rfl (.string nm) (.int .i64 0) (.int .i64 0) (.string ⟨#[]⟩)
 replace HO := Hi (show Own _ _ _ [_, _, _, blkR bn (.cells #[.string nm, .int .i64 0, .int .i64 0, .string ⟨#[]⟩] 213)] from hO)
 clear hO
 go_wp2_with fail
 clear z1_0 z1_1 z1_2 z1_3 z1_4 hx2 hbo k2_0_3 lk2_0_3 hx7 k2_1_8 lk2_1_8 hx11 k2_2_12 lk2_2_12 hx14 k2_3_15 lk2_3_15 hx16 z1_0t hx17 hbn k3_0_18 lk3_0_18 hx22 k3_1_23 lk3_1_23 hx26 k3_2_27 lk3_2_27 hx29 k3_3_30 lk3_3_30 hx31
 clear e0
 refine (removeP_o (putP ⟨nm, kd, tt, ad, to⟩) bo bn HO.out 0 rfl (fun F hF _ w' hu x => putc_any x ⟨nm, kd, ad, to⟩ ⟨nm, 0, 0, ⟨#[]⟩⟩ bo bn w' ((hu.block bo (HO.out.lt 2 rfl) (resC_apart hF (HO.out.blk 2 rfl) (by decide) (by decide))).trans (HO.out.blk 2 rfl)) ((hu.block bn (HO.out.lt 3 rfl) (resC_apart hF (HO.out.blk 3 rfl) (by decide) (by decide))).trans (HO.out.blk 3 rfl))) (Nat.le_trans HL.out (by decide))).mono ?_
 rintro e x32 ⟨rfl, hO, -⟩
 replace HO := Hi (show Own _ _ _ [resC c (l.filter fun x => !putP ⟨nm, kd, tt, ad, to⟩ x), _, _, _] from hO)
 clear hO
 have HFL := Hi (show (l.filter fun x => !putP ⟨nm, kd, tt, ad, to⟩ x).length ≤ 32 from Nat.le_trans (List.length_filter_le _ _) HL.out)
 obtain ⟨l2, hl2⟩ : ∃ y, (l.filter fun x => !putP ⟨nm, kd, tt, ad, to⟩ x) = y := ⟨_, rfl⟩
 have HL2 := Hi hl2
 rw [hl2] at HO HFL
 clear hl2
 go_wp2
 have g1_2 := cell_regrown (show x32.cell? _ = some (.int .i64 tt) from HO.out.cell 1 rfl 2 rfl)
 have g2_0 := cell_regrown (show x32.cell? _ = some (.string nm) from HO.out.cell 2 rfl 0 rfl)
 have g2_1 := cell_regrown (show x32.cell? _ = some (.int .i64 kd) from HO.out.cell 2 rfl 1 rfl)
 have g2_2 := cell_regrown (show x32.cell? _ = some (.int .i64 ad) from HO.out.cell 2 rfl 2 rfl)
 have g2_3 := cell_regrown (show x32.cell? _ = some (.string to) from HO.out.cell 2 rfl 3 rfl)
 have hs : IntKind.i64.wrap (now + tt) = now + tt := IntWalk.i64_in _ (by have := HB.out; omega)
 refine wp_region_R 10 (by kernel_rfl) (by kernel_rfl) ?_
 simp only [List.take, List.drop]
 iterate 9 (first | (refine wpR_want (by kernel_rfl) rfl rfl ?_; intro K hK; go_big_quiet_op; go_big_quiet_on) | (refine wpR_is (by kernel_rfl) rfl _ (fun w _ => rfl) ?_; simp only [Act.put, l_T, l_S, l_Z]))
 refine wpR_ex (sblk x32.heap.size (.cells #[.string nm, .int .i64 kd, .int .i64 ad, .string to, .int .i64 (now + tt)] 215)) (sblk_lasts _ _) (by kernel_rfl) (fun a' w' hw' he => ?_) (fun d hd => ?_)
 ·
  have hs := hw'.size
  obtain ⟨hag, _⟩ := he
  have hag' : a'.eval (.tmp 44) = .agg #[.string nm, .int .i64 kd, .int .i64 ad, .string to, .int .i64 (now + tt)] := hag
  refine wp_of_value (v := .slice (some ⟨w'.heap.size, 0, none⟩) 1 1) (w' := w'.alloc (.cells #[.string nm, .int .i64 kd, .int .i64 ad, .string to, .int .i64 (now + tt)] 215)) (run_v_ok ?_) ⟨_, rfl, (Below.refl _ _).alloc (Nat.le_refl _) _, ⟨w'.heap.size, rfl, hs, new_block _ _⟩⟩
  simp only [List.map_toArray, List.map_cons, List.map_nil, hag']
  exact run_bsEc _ _ _ _ _ _
 cases hd
 simp only [List.nil_append]
 refine wpR_nil (by kernel_rfl) (by simp) ?_
 rintro x60 hbw
 simp only [exAll]
 rintro u45 ⟨be, rfl, hgebe, hbbbe⟩
 simp only [Act.put, l_T, l_S, l_Z, List.drop]
 have hO := HO.out.push (R := blkR be (.cells #[.string nm, .int .i64 kd, .int .i64 ad, .string to, .int .i64 (now + tt)] 215)) (F := fun z => z = be) ⟨fun _ => Iff.rfl, hbbbe⟩ (fun z hz => hz ▸ hgebe) hbw
 clear hgebe hbbbe
 replace HO := Hi (show Own w D x60 [resC c l2, blkR bx (.cells #[.string nm, .int .i64 kd, .int .i64 tt, .int .i64 ad, .string to] 49), blkR bo (.cells #[.string nm, .int .i64 kd, .int .i64 ad, .string to] 213), blkR bn (.cells #[.string nm, .int .i64 0, .int .i64 0, .string ⟨#[]⟩] 213), blkR be (.cells #[.string nm, .int .i64 kd, .int .i64 ad, .string to, .int .i64 (now + tt)] 215)] from hO)
 clear hO hbw g1_2 g2_0 g2_1 g2_2 g2_3 hs 
 go_wp2_with fail
 refine (store_o (e := ⟨nm, kd, ad, to, now + tt⟩) HO.out 0 rfl 4 rfl (by decide) HFL.out).mono ?_
 rintro e x33 ⟨rfl, hO, -⟩
 replace HO := Hi (show Own _ _ _ [resC c (storeF l2 ⟨nm, kd, ad, to, now + tt⟩), _, _, _, _] from hO)
 clear hO
 go_wp2
 go_ret
 exact ⟨rfl, by rw [HL2.out]; exact HO.out.take 1, HO.out.size⟩
theorem put_o {c : Nat} {a : Addr} (now : Int) (r : Rc) (h : Own w0 D w L) (i : Nat) (hi : L[i]? = some (resC c l)) (hg : w.cell? ⟨errG, 0, none⟩ = some (errV a)) (hn : r.nm.size ≤ maxLen) (ht : r.to.size ≤ maxLen) (hl : l.length ≤ 32) :
  Calls Tryz.prog 126 #[.pointer (some ⟨c, 0, none⟩), .int .i64 now, rcV r] w (OPost w0 D (L.set i (resC c (putF now r l))) (.int .i64 (putE now r)) w) := by
 refine o_one h hi fun D HO0 => ?_
 obtain ⟨nm, kd, tt, ad, to⟩ := r
 unfold putF putE
 cases hr : recB now ⟨nm, kd, tt, ad, to⟩ with
 | false => simpa using put_bad now nm kd tt ad to HO0 hg hn ht hl hr
 | true =>
  by_cases h0 : tt = 0
  ·
   simpa [h0] using put_zero now nm kd tt ad to HO0 hg hn ht hl hr h0
  ·
   simpa [h0] using put_ok now nm kd tt ad to HO0 hg hn ht hl hr h0
def negP (nm : ByteArray) (x : En) : Bool := x.nm.toList == nm.toList
def negE (now : Int) (nm : ByteArray) (tt : Int) : Int := if chkF now nm tt then 0 else 200
def negF (now : Int) (nm : ByteArray) (tt : Int) (l : List En) : List En := if chkF now nm tt && decide (tt ≠ 0) then storeF (l.filter fun x => !negP nm x) ⟨nm, 0, 0, ⟨#[]⟩, now + tt⟩ else l
theorem chkF_bds {now : Int} {tt : Int} (h : chkF now nm tt = true) : (0 ≤ now ∧ now ≤ 1000000000) ∧ (0 ≤ tt ∧ tt ≤ 1000) := by
 simp only [chkF, Bool.and_eq_true, decide_eq_true_eq] at h
 omega
theorem neg_bad {c : Nat} {a : Addr} (now : Int) (nm : ByteArray) (tt : Int) (HO0 : Own w D w [resC c l]) (hg0 : w.cell? ⟨errG, 0, none⟩ = some (errV a)) (hn : nm.size ≤ maxLen) (hl : l.length ≤ 32) (hr : chkF now nm tt = false) :
  Calls Tryz.prog 123 #[.pointer (some ⟨c, 0, none⟩), .int .i64 now, .string nm, .int .i64 tt] w (OPost w D [resC c (l)] (.int .i64 200) w) := by
 have HN := Hi hn
 have HL := Hi hl
 have HR := Hi hr
 clear hn hl hr
 have HO := Hi HO0
 clear HO0
 obtain ⟨x1, hx1, bx, hbx, hO⟩ := HO.out.allocE (.cells #[.string nm] 9)
 replace HO := Hi (show Own w D x1 [resC c l, blkR bx (.cells #[.string nm] 9)] from hO)
 clear hO
 have HG := Hi (keep (by rw [← hx1]; exact below_one _ _ : Below w.heap.size w x1) hg0)
 clear hg0
 go_enter Tryz.func123, Tryz.ntmps123
 go_wp2
 clear hx1 hbx
 have g1_0 := cell_regrown (show x1.cell? _ = some (.string nm) from HO.out.cell 1 rfl 0 rfl)
 have hg := HG.out
 have gg := cell_regrown hg
 clear hg
 refine wp_region_R 6 (by kernel_rfl) (by kernel_rfl) ?_
 simp only [List.take, List.drop]
 iterate 3 (first | (refine wpR_want (by kernel_rfl) rfl rfl ?_; intro K hK; go_big_quiet_op; go_big_quiet_on) | (refine wpR_is (by kernel_rfl) rfl _ (fun w _ => rfl) ?_; simp only [Act.put, l_T, l_S, l_Z]))
 refine wpR_call (by kernel_rfl) rfl 168 #[.int .i64 now, .string nm, .int .i64 tt] (errV a) (fun w => by simp [go_sem]) (fun w _ => chkc_r HR.out a w HN.out (keep (by assumption) HG.out)) ?_
 simp only [Act.put, l_T, l_S, l_Z]
 iterate 1 (first | (refine wpR_want (by kernel_rfl) rfl rfl ?_; intro K hK; go_big_quiet_op; go_big_quiet_on) | (refine wpR_is (by kernel_rfl) rfl _ (fun w _ => rfl) ?_; simp only [Act.put, l_T, l_S, l_Z]))
 refine wpR_call (by kernel_rfl) rfl 167 #[errV a, errV a] (.bool true) (fun w => by simp [go_sem]) (fun w _ => is_same' a w) ?_
 simp only [Act.put, l_T, l_S, l_Z]
 refine wpR_nil (by kernel_rfl) (by simp) ?_
 rintro x5 hbw
 simp only [exAll]
 simp only [List.drop]
 have hO := HO.out.stay hbw
 replace HO := Hi hO
 clear hO hbw g1_0 gg HG
 go_wp2
 go_ret
 exact ⟨rfl, HO.out.take 1, HO.out.size⟩
theorem neg_zero {c : Nat} {a : Addr} (now : Int) (nm : ByteArray) (tt : Int) (HO0 : Own w D w [resC c l]) (hg0 : w.cell? ⟨errG, 0, none⟩ = some (errV a)) (hn : nm.size ≤ maxLen) (hl : l.length ≤ 32) (hr : chkF now nm tt = true) (h0 : tt = 0) :
  Calls Tryz.prog 123 #[.pointer (some ⟨c, 0, none⟩), .int .i64 now, .string nm, .int .i64 tt] w (OPost w D [resC c (l)] (.int .i64 0) w) := by
 have HN := Hi hn
 have HL := Hi hl
 have HR := Hi hr
 clear hn hl hr
 have HO := Hi HO0
 clear HO0
 obtain ⟨x1, hx1, bx, hbx, hO⟩ := HO.out.allocE (.cells #[.string nm] 9)
 replace HO := Hi (show Own w D x1 [resC c l, blkR bx (.cells #[.string nm] 9)] from hO)
 clear hO
 have HG := Hi (keep (by rw [← hx1]; exact below_one _ _ : Below w.heap.size w x1) hg0)
 clear hg0
 have H0 := Hi h0
 clear h0
 go_enter Tryz.func123, Tryz.ntmps123
 go_wp2
 clear hx1 hbx
 have g1_0 := cell_regrown (show x1.cell? _ = some (.string nm) from HO.out.cell 1 rfl 0 rfl)
 have hg := HG.out
 have gg := cell_regrown hg
 clear hg
 refine wp_region_R 6 (by kernel_rfl) (by kernel_rfl) ?_
 simp only [List.take, List.drop]
 iterate 3 (first | (refine wpR_want (by kernel_rfl) rfl rfl ?_; intro K hK; go_big_quiet_op; go_big_quiet_on) | (refine wpR_is (by kernel_rfl) rfl _ (fun w _ => rfl) ?_; simp only [Act.put, l_T, l_S, l_Z]))
 refine wpR_call (by kernel_rfl) rfl 168 #[.int .i64 now, .string nm, .int .i64 tt] (.nilIface) (fun w => by simp [go_sem]) (fun w _ => chkc_r HR.out a w HN.out (keep (by assumption) HG.out)) ?_
 simp only [Act.put, l_T, l_S, l_Z]
 iterate 1 (first | (refine wpR_want (by kernel_rfl) rfl rfl ?_; intro K hK; go_big_quiet_op; go_big_quiet_on) | (refine wpR_is (by kernel_rfl) rfl _ (fun w _ => rfl) ?_; simp only [Act.put, l_T, l_S, l_Z]))
 refine wpR_call (by kernel_rfl) rfl 167 #[.nilIface, errV a] (.bool false) (fun w => by simp [go_sem]) (fun w _ => is_nil' a w) ?_
 simp only [Act.put, l_T, l_S, l_Z]
 refine wpR_nil (by kernel_rfl) (by simp) ?_
 rintro x5 hbw
 simp only [exAll]
 simp only [List.drop]
 have hO := HO.out.stay hbw
 replace HO := Hi hO
 clear hO hbw g1_0 gg HG
 have e0 : (tt == 0) = true := by simpa using H0.out
 go_wp2
 go_ret
 exact ⟨rfl, HO.out.take 1, HO.out.size⟩
theorem neg_ok {c : Nat} {a : Addr} (now : Int) (nm : ByteArray) (tt : Int) (HO0 : Own w D w [resC c l]) (hg0 : w.cell? ⟨errG, 0, none⟩ = some (errV a)) (hn : nm.size ≤ maxLen) (hl : l.length ≤ 32) (hr : chkF now nm tt = true) (h0 : tt ≠ 0) :
  Calls Tryz.prog 123 #[.pointer (some ⟨c, 0, none⟩), .int .i64 now, .string nm, .int .i64 tt] w (OPost w D [resC c (storeF (l.filter fun x => !negP nm x) ⟨nm, 0, 0, ⟨#[]⟩, now + tt⟩)] (.int .i64 0) w) := by
 have HN := Hi hn
 have HL := Hi hl
 have HR := Hi hr
 clear hn hl hr
 have HO := Hi HO0
 clear HO0
 obtain ⟨x1, hx1, bx, hbx, hO⟩ := HO.out.allocE (.cells #[.string nm] 9)
 replace HO := Hi (show Own w D x1 [resC c l, blkR bx (.cells #[.string nm] 9)] from hO)
 clear hO
 have HG := Hi (keep (by rw [← hx1]; exact below_one _ _ : Below w.heap.size w x1) hg0)
 clear hg0
 have H0 := Hi h0
 clear h0
 obtain ⟨hb1, hb2⟩ := chkF_bds HR.out
 have HB := Hi (show (0 ≤ now ∧ now ≤ 1000000000) ∧ (0 ≤ tt ∧ tt ≤ 1000) from ⟨hb1, hb2⟩)
 clear hb1 hb2
 go_enter Tryz.func123, Tryz.ntmps123
 go_wp2
 clear hx1 hbx
 have g1_0 := cell_regrown (show x1.cell? _ = some (.string nm) from HO.out.cell 1 rfl 0 rfl)
 have hg := HG.out
 have gg := cell_regrown hg
 clear hg
 refine wp_region_R 6 (by kernel_rfl) (by kernel_rfl) ?_
 simp only [List.take, List.drop]
 iterate 3 (first | (refine wpR_want (by kernel_rfl) rfl rfl ?_; intro K hK; go_big_quiet_op; go_big_quiet_on) | (refine wpR_is (by kernel_rfl) rfl _ (fun w _ => rfl) ?_; simp only [Act.put, l_T, l_S, l_Z]))
 refine wpR_call (by kernel_rfl) rfl 168 #[.int .i64 now, .string nm, .int .i64 tt] (.nilIface) (fun w => by simp [go_sem]) (fun w _ => chkc_r HR.out a w HN.out (keep (by assumption) HG.out)) ?_
 simp only [Act.put, l_T, l_S, l_Z]
 iterate 1 (first | (refine wpR_want (by kernel_rfl) rfl rfl ?_; intro K hK; go_big_quiet_op; go_big_quiet_on) | (refine wpR_is (by kernel_rfl) rfl _ (fun w _ => rfl) ?_; simp only [Act.put, l_T, l_S, l_Z]))
 refine wpR_call (by kernel_rfl) rfl 167 #[.nilIface, errV a] (.bool false) (fun w => by simp [go_sem]) (fun w _ => is_nil' a w) ?_
 simp only [Act.put, l_T, l_S, l_Z]
 refine wpR_nil (by kernel_rfl) (by simp) ?_
 rintro x5 hbw
 simp only [exAll]
 simp only [List.drop]
 have hO := HO.out.stay hbw
 replace HO := Hi hO
 clear hO hbw g1_0 gg HG
 have e0 : (tt == 0) = false := by simpa using H0.out
 go_wp2_with fail
 clear e0
 refine (removeN_o (negP nm) bx HO.out 0 rfl (fun F hF _ w' hu x => negc_any x nm bx w' (hu.keep (resC_apart hF (HO.out.blk 1 rfl) (by decide) (by decide)) (HO.out.cell 1 rfl 0 rfl))) (Nat.le_trans HL.out (by decide))).mono ?_
 rintro e x2 ⟨rfl, hO, -⟩
 replace HO := Hi (show Own _ _ _ [resC c (l.filter fun x => !negP nm x), _] from hO)
 clear hO
 have HFL := Hi (show (l.filter fun x => !negP nm x).length ≤ 32 from Nat.le_trans (List.length_filter_le _ _) HL.out)
 obtain ⟨l2, hl2⟩ : ∃ y, (l.filter fun x => !negP nm x) = y := ⟨_, rfl⟩
 have HL2 := Hi hl2
 rw [hl2] at HO HFL
 clear hl2
 go_wp2
 have g1_0 := cell_regrown (show x2.cell? _ = some (.string nm) from HO.out.cell 1 rfl 0 rfl)
 have hs : IntKind.i64.wrap (now + tt) = now + tt := IntWalk.i64_in _ (by have := HB.out; omega)
 refine wp_region_R 10 (by kernel_rfl) (by kernel_rfl) ?_
 simp only [List.take, List.drop]
 iterate 9 (first | (refine wpR_want (by kernel_rfl) rfl rfl ?_; intro K hK; go_big_quiet_op; go_big_quiet_on) | (refine wpR_is (by kernel_rfl) rfl _ (fun w _ => rfl) ?_; simp only [Act.put, l_T, l_S, l_Z]))
 refine wpR_ex (sblk x2.heap.size (.cells #[.string nm, .int .i64 0, .int .i64 0, .string ⟨#[]⟩, .int .i64 (now + tt)] 215)) (sblk_lasts _ _) (by kernel_rfl) (fun a' w' hw' he => ?_) (fun d hd => ?_)
 ·
  have hs := hw'.size
  obtain ⟨hag, _⟩ := he
  have hag' : a'.eval (.tmp 32) = .agg #[.string nm, .int .i64 0, .int .i64 0, .string ⟨#[]⟩, .int .i64 (now + tt)] := hag
  refine wp_of_value (v := .slice (some ⟨w'.heap.size, 0, none⟩) 1 1) (w' := w'.alloc (.cells #[.string nm, .int .i64 0, .int .i64 0, .string ⟨#[]⟩, .int .i64 (now + tt)] 215)) (run_v_ok ?_) ⟨_, rfl, (Below.refl _ _).alloc (Nat.le_refl _) _, ⟨w'.heap.size, rfl, hs, new_block _ _⟩⟩
  simp only [List.map_toArray, List.map_cons, List.map_nil, hag']
  exact run_bsEc _ _ _ _ _ _
 cases hd
 simp only [List.nil_append]
 refine wpR_nil (by kernel_rfl) (by simp) ?_
 rintro x60 hbw
 simp only [exAll]
 rintro u33 ⟨be, rfl, hgebe, hbbbe⟩
 simp only [Act.put, l_T, l_S, l_Z, List.drop]
 have hO := HO.out.push (R := blkR be (.cells #[.string nm, .int .i64 0, .int .i64 0, .string ⟨#[]⟩, .int .i64 (now + tt)] 215)) (F := fun z => z = be) ⟨fun _ => Iff.rfl, hbbbe⟩ (fun z hz => hz ▸ hgebe) hbw
 clear hgebe hbbbe
 replace HO := Hi (show Own w D x60 [resC c l2, blkR bx (.cells #[.string nm] 9), blkR be (.cells #[.string nm, .int .i64 0, .int .i64 0, .string ⟨#[]⟩, .int .i64 (now + tt)] 215)] from hO)
 clear hO hbw g1_0 hs 
 go_wp2_with fail
 refine (store_o (e := ⟨nm, 0, 0, ⟨#[]⟩, now + tt⟩) HO.out 0 rfl 2 rfl (by decide) HFL.out).mono ?_
 rintro e x3 ⟨rfl, hO, -⟩
 replace HO := Hi (show Own _ _ _ [resC c (storeF l2 ⟨nm, 0, 0, ⟨#[]⟩, now + tt⟩), _, _] from hO)
 clear hO
 go_wp2
 go_ret
 exact ⟨rfl, by rw [HL2.out]; exact HO.out.take 1, HO.out.size⟩
theorem neg_o {c : Nat} {a : Addr} (now : Int) (nm : ByteArray) (tt : Int) (h : Own w0 D w L) (i : Nat) (hi : L[i]? = some (resC c l)) (hg : w.cell? ⟨errG, 0, none⟩ = some (errV a)) (hn : nm.size ≤ maxLen) (hl : l.length ≤ 32) :
  Calls Tryz.prog 123 #[.pointer (some ⟨c, 0, none⟩), .int .i64 now, .string nm, .int .i64 tt] w (OPost w0 D (L.set i (resC c (negF now nm tt l))) (.int .i64 (negE now nm tt)) w) := by
 refine o_one h hi fun D HO0 => ?_
 unfold negF negE
 cases hr : chkF now nm tt with
 | false => simpa using neg_bad now nm tt HO0 hg hn hl hr
 | true =>
  by_cases h0 : tt = 0
  ·
   simpa [h0] using neg_zero now nm tt HO0 hg hn hl hr h0
  ·
   simpa [h0] using neg_ok now nm tt HO0 hg hn hl hr h0
def tickF (now : Int) (l : List En) : List En := l.filter fun x => liveB now x
theorem tick_o {c : Nat} (now : Int) (h : Own w0 D w L) (i : Nat) (hi : L[i]? = some (resC c l)) (hl : l.length ≤ 1000) :
  Calls Tryz.prog 58 #[.pointer (some ⟨c, 0, none⟩), .int .i64 now] w (OPost w0 D (L.set i (resC c (tickF now l))) (.tuple #[]) w) := by
 have hF := Hi (show tickF now l = l.filter fun x => !(!liveB now x) by unfold tickF; simp)
 refine o_one h hi fun D HO0 => ?_
 have HL := Hi hl
 have HO := Hi HO0
 clear h hi hl HO0
 obtain ⟨x1, hx1, bx, hbx, hO⟩ := HO.out.allocE (.cells #[.int .i64 now] 3)
 replace HO := Hi (show Own w D x1 [resC c l, blkR bx (.cells #[.int .i64 now] 3)] from hO)
 clear hO
 go_enter Tryz.func58, Tryz.ntmps58
 go_wp2_with fail
 refine (removeT_o (fun x => !liveB now x) bx HO.out 0 rfl (fun F hF _ w' hu x => tickc_any x now bx w' (hu.keep (resC_apart hF (HO.out.blk 1 rfl) (by decide) (by decide)) (HO.out.cell 1 rfl 0 rfl))) HL.out).mono ?_
 rintro e x2 ⟨rfl, hO, -⟩
 replace HO := Hi (show Own _ _ _ [resC c (l.filter fun x => !(!liveB now x)), _] from hO)
 clear hO
 clear hx1 hbx
 have HO2 := Hi (show Own w D x2 [resC c (tickF now l)] by rw [hF.out]; exact HO.out.take 1)
 have HS := Hi HO.out.size
 clear HO
 go_wp2
 go_end0
 exact ⟨rfl, HO2.out, HS.out⟩
end Go.Proofs.YtbolfkojebbejaaGreatDoor
