/- Contracts of check and checkRecord. Contract of checkRecord. Printed by wip/tools/gen20h.py. Contract of Put. Printed by wip/tools/gen20i.py. Contracts of AddNegative and Tick. Printed by wip/tools/gen20j.py. -/
import Derived.Test.YtbolfkojebbejaaGreatDoorBe
import Derived.Test.YtbolfkojebbejaaGreatDoorVn
import Derived.Test.YtbolfkojebbejaaGreatDoorBc
namespace Go.Proofs.YtbolfkojebbejaaGreatDoor
open Go.RowKit Go.Sort
set_option linter.unusedVariables false
set_option maxRecDepth 100000

/-- A cell that nothing changes. -/
def cellR (g : Nat) (v : Value) : Res where
  P w F := (∀ x, F x ↔ x = g) ∧ w.cell? ⟨g, 0, none⟩ = some v
  bound h x hx := by rw [(h.1 x).1 hx]; exact block_lt_of_cell h.2
  move h hu hF := ⟨h.1, hu.keep (hF _ ((h.1 _).2 rfl)) h.2⟩
theorem Own.at {w0 w : World} {D : Nat → Prop} {L : List Res} (h : Own w0 D w L) (i : Nat) {g : Nat} {v : Value} (hi : L[i]? = some (cellR g v)) : w.cell? ⟨g, 0, none⟩ = some v := by
  obtain ⟨F, h1, _⟩ := h.step hi; exact h1.2
abbrev errV (a : Addr) : Value := .iface 361 (.pointer (some a))
abbrev errG : Nat := 0
def chkF (now : Int) (nm : ByteArray) (tt : Int) : Bool := decide (0 ≤ now) && decide (now ≤ 1000000000) && decide (0 ≤ tt) && decide (tt ≤ 1000) && vname nm
def adrOk (a : Int) : Bool := decide (0 ≤ a) && decide (a ≤ 4294967295)
def recB (now : Int) (r : Rc) : Bool := ((decide (r.kd = 1) && adrOk r.ad && decide (r.to.toList = [])) || (decide (r.kd = 2) && vname r.to && decide (r.ad = 0))) && chkF now r.nm r.tt
theorem adr_any (a : Int) (w : World) : Calls Tryz.prog 127 #[.int .i64 a] w fun e w' => e = .returned (.bool (adrOk a)) ∧ w = w' := by
  unfold adrOk
  go_enter Tryz.func127, Tryz.ntmps127
  go_wp2
  all_goals (go_ret; refine ⟨ret_bool ?_, rfl⟩; first | (rw [Bool.eq_iff_iff]; done) | (rw [Bool.eq_iff_iff]; simp; done) | (rw [Bool.eq_iff_iff]; simp; omega))
theorem adr_r {a : Int} {b : Bool} (h : adrOk a = b) (w : World) : Calls Tryz.prog 127 #[.int .i64 a] w fun e w' => e = .returned (.bool b) ∧ w = w' := h ▸ adr_any a w
theorem vname_r {s : ByteArray} {b : Bool} (h : vname s = b) (hs : s.size ≤ maxLen) (w : World) : Calls Tryz.prog 56 #[.string s] w fun e w' => e = .returned (.bool b) ∧ Below w.heap.size w w' := h ▸ vname_any s w hs
end Go.Proofs.YtbolfkojebbejaaGreatDoor

namespace Go.Proofs.YtbolfkojebbejaaGreatDoor
open Go.RowKit Go.Sort
set_option linter.unusedVariables false
set_option maxRecDepth 100000

def recA (r : Rc) : Bool := (decide (r.kd = 1) && adrOk r.ad && decide (r.to.toList = [])) || (decide (r.kd = 2) && vname r.to && decide (r.ad = 0))
theorem recB_eq (now : Int) (r : Rc) : recB now r = (recA r && chkF now r.nm r.tt) := rfl
def crPost (v : Value) (w : World) (e : Ending) (w' : World) : Prop := e = .returned v ∧ Below w.heap.size w w'
end Go.Proofs.YtbolfkojebbejaaGreatDoor

namespace Go.Proofs.YtbolfkojebbejaaGreatDoor
open Go.RowKit Go.Sort
set_option linter.unusedVariables false
set_option maxRecDepth 100000

theorem resC_apart {w : World} {F : Nat → Prop} {c : Nat} {l : List En} {b : Nat} {cs : Array Value} {t : TypeId} (h : (resC c l).P w F) (hb : w.heap[b]? = some (.cells cs t)) (h1 : t ≠ 201) (h2 : t ≠ 215) : ¬ F b := by
  intro hF
  obtain ⟨v, Fs, k1, _, k3⟩ := h
  obtain ⟨i, hi, hf⟩ := (k3 b).1 hF
  match i, hi with
  | 0, _ =>
    have := k1 0 (blkC c v) rfl
    have e := (this.1 b).1 hf
    have hh := this.2
    rw [e] at hb
    rw [hh] at hb
    cases hb
    exact h1 rfl
  | 1, _ =>
    have := k1 1 (rowE v l) rfl
    have hx' := (this.1 b).1 hf
    obtain ⟨_, ⟨e, _⟩ | ⟨g, c', cur, e, _, hh, _⟩⟩ := this.2
    · rw [e] at hx'; cases hx'
    · rw [e] at hx'; cases hx'
      rw [hh] at hb; cases hb
      exact h2 rfl
def ownK (r : Rc) : Ky := ⟨r.nm, r.kd, r.ad, r.to⟩
def noneK (nm : ByteArray) : Ky := ⟨nm, 0, 0, ⟨#[]⟩⟩
def putP (r : Rc) (x : En) : Bool := kyEq (keyE x) (ownK r) || kyEq (keyE x) (noneK r.nm)
def putF (now : Int) (r : Rc) (l : List En) : List En := if recB now r && decide (r.tt ≠ 0) then storeF (l.filter fun x => !putP r x) ⟨r.nm, r.kd, r.ad, r.to, now + r.tt⟩ else l
theorem recB_bds {now : Int} {r : Rc} (h : recB now r = true) : (0 ≤ now ∧ now ≤ 1000000000) ∧ (0 ≤ r.tt ∧ r.tt ≤ 1000) := by
  simp only [recB, chkF, Bool.and_eq_true, decide_eq_true_eq] at h
  omega
end Go.Proofs.YtbolfkojebbejaaGreatDoor

namespace Go.Proofs.YtbolfkojebbejaaGreatDoor
open Go.RowKit Go.Sort
set_option linter.unusedVariables false
set_option maxRecDepth 100000

def tickF (now : Int) (l : List En) : List En := l.filter fun x => liveB now x
theorem tick_o {w0 w : World} {D : Nat → Prop} {L : List Res} {c : Nat} {l : List En} (now : Int) (h : Own w0 D w L) (i : Nat) (hi : L[i]? = some (resC c l)) (hl : l.length ≤ 1000) :
    Calls Tryz.prog 58 #[.pointer (some ⟨c, 0, none⟩), .int .i64 now] w (OPost w0 D (L.set i (resC c (tickF now l))) (.tuple #[]) w) := by
  have hF := Lib.hid (show tickF now l = l.filter fun x => !(!liveB now x) by unfold tickF; simp)
  refine o_one h hi fun D HO0 => ?_
  have HL := Lib.hid hl
  have HO := Lib.hid HO0
  clear h hi hl HO0
  obtain ⟨x1, hx1⟩ : ∃ y, w.alloc (.cells #[.int .i64 now] 3) = y := ⟨_, rfl⟩
  obtain ⟨bx, hbx⟩ : ∃ y, w.heap.size = y := ⟨_, rfl⟩
  have hO := HO.out.alloc (.cells #[.int .i64 now] 3)
  rw [hx1, hbx] at hO
  replace HO := Lib.hid (show Own w D x1 [resC c l, blkR bx (.cells #[.int .i64 now] 3)] from hO)
  clear hO
  go_enter Tryz.func58, Tryz.ntmps58
  go_wp2_with fail
  refine (removeT_o (fun x => !liveB now x) bx HO.out 0 rfl (fun F hF _ w' hu x => tickc_any x now bx w' (hu.keep (resC_apart hF (HO.out.blk 1 rfl) (by decide) (by decide)) (HO.out.cell 1 rfl 0 rfl))) HL.out).mono ?_
  rintro e x2 ⟨rfl, hO, -⟩
  replace HO := Lib.hid (show Own w D x2 [resC c (l.filter fun x => !(!liveB now x)), blkR bx (.cells #[.int .i64 now] 3)] from hO)
  clear hO
  clear hx1 hbx
  have HO2 := Lib.hid (show Own w D x2 [resC c (tickF now l)] by rw [hF.out]; exact HO.out.take 1)
  have HS := Lib.hid HO.out.size
  clear HO
  go_wp2
  go_end0
  exact ⟨rfl, HO2.out, HS.out⟩

end Go.Proofs.YtbolfkojebbejaaGreatDoor
