/- Contracts of check and checkRecord. -/
import Derived.Test.YtbhglemolpfnkaaGreatDoorBe
import Derived.Test.YtbhglemolpfnkaaGreatDoorVn
import Derived.Test.YtbhglemolpfnkaaGreatDoorBc
set_option linter.unusedVariables false
set_option maxRecDepth 100000
set_option maxHeartbeats 32000000
namespace Go.Proofs.YtbhglemolpfnkaaGreatDoor
open Go.RowKit Go.Sort

def cellR (g : Nat) (v : Value) : Res where
 P w F := (∀ x, F x ↔ x = g) ∧ w.cell? ⟨g, 0, none⟩ = some v
 bound h x hx := by rw [(h.1 x).1 hx]; exact block_lt_of_cell h.2
 move h hu hF := ⟨h.1, hu.keep (hF _ ((h.1 _).2 rfl)) h.2⟩
theorem Own.at {w0 w : World} {D : Nat → Prop} {L : List Res} (h : Own w0 D w L) (i : Nat) {g : Nat} {v : Value} (hi : L[i]? = some (cellR g v)) : w.cell? ⟨g, 0, none⟩ = some v := by
 obtain ⟨F, h1, _⟩ := h.step hi; exact h1.2
abbrev errV (a : Addr) : Value := .iface 318 (.pointer (some a))
abbrev errG : Nat := 0
def chkF (now : Int) (nm : ByteArray) (tt : Int) : Bool := decide (0 ≤ now) && decide (now ≤ 1000000000) && decide (0 ≤ tt) && decide (tt ≤ 1000) && vname nm
def adrOk (a : Int) : Bool := decide (0 ≤ a) && decide (a ≤ 4294967295)
def recB (now : Int) (r : Rc) : Bool := ((decide (r.kd = 1) && adrOk r.ad && decide (r.to.toList = [])) || (decide (r.kd = 2) && vname r.to && decide (r.ad = 0))) && chkF now r.nm r.tt
theorem adr_any (a : Int) (w : World) : Calls Tryz.prog 72 #[.int .i64 a] w fun e w' => e = .returned (.bool (adrOk a)) ∧ w = w' := by
 unfold adrOk
 go_enter Tryz.func72, Tryz.ntmps72
 go_wp2
 all_goals (go_ret; refine ⟨ret_bool ?_, rfl⟩; first | (rw [Bool.eq_iff_iff]; done) | (rw [Bool.eq_iff_iff]; simp; done) | (rw [Bool.eq_iff_iff]; simp; omega))
theorem adr_r {a : Int} {b : Bool} (h : adrOk a = b) (w : World) : Calls Tryz.prog 72 #[.int .i64 a] w fun e w' => e = .returned (.bool b) ∧ w = w' := h ▸ adr_any a w
theorem vname_r {s : ByteArray} {b : Bool} (h : vname s = b) (hs : s.size ≤ maxLen) (w : World) : Calls Tryz.prog 37 #[.string s] w fun e w' => e = .returned (.bool b) ∧ Below w.heap.size w w' := h ▸ vname_any s w hs
def recA (r : Rc) : Bool := (decide (r.kd = 1) && adrOk r.ad && decide (r.to.toList = [])) || (decide (r.kd = 2) && vname r.to && decide (r.ad = 0))
theorem recB_eq (now : Int) (r : Rc) : recB now r = (recA r && chkF now r.nm r.tt) := rfl
def crPost (v : Value) (w : World) (e : Ending) (w' : World) : Prop := e = .returned v ∧ Below w.heap.size w w'
def ownK (r : Rc) : Ky := ⟨r.nm, r.kd, r.ad, r.to⟩
def noneK (nm : ByteArray) : Ky := ⟨nm, 0, 0, ⟨#[]⟩⟩
def putP (r : Rc) (x : En) : Bool := kyEq (keyE x) (ownK r) || kyEq (keyE x) (noneK r.nm)
def putF (now : Int) (r : Rc) (l : List En) : List En := if recB now r && decide (r.tt ≠ 0) then storeF (l.filter fun x => !putP r x) ⟨r.nm, r.kd, r.ad, r.to, now + r.tt⟩ else l
theorem recB_bds {now : Int} {r : Rc} (h : recB now r = true) : (0 ≤ now ∧ now ≤ 1000000000) ∧ (0 ≤ r.tt ∧ r.tt ≤ 1000) := by
 simp only [recB, chkF, Bool.and_eq_true, decide_eq_true_eq] at h
 omega
end Go.Proofs.YtbhglemolpfnkaaGreatDoor
