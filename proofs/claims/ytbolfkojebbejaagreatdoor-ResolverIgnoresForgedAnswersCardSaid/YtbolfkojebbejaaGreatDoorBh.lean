/- Contracts of the laws' helpers of chapter 20: pick, Name, Rec. -/
import Derived.Test.YtbolfkojebbejaaGreatDoorBf
import Derived.Test.YtbolfkojebbejaaGreatDoorBe
set_option linter.unusedVariables false
set_option maxRecDepth 100000
set_option maxHeartbeats 32000000
namespace Go.Proofs.YtbolfkojebbejaaGreatDoor
open Go.RowKit Go.Sort

theorem ret_i64' {a b : Int} (h : a = b) : Ending.returned (.int .i64 a) = .returned (.int .i64 b) := by rw [h]
def pk (c n : Int) : Int := (if c < 0 then -(c + 1) else c) % n
theorem pk_bd (c n : Int) (h : 0 < n) : 0 ≤ pk c n ∧ pk c n < n := by
 unfold pk; exact ⟨Int.emod_nonneg _ (by omega), Int.emod_lt_of_pos _ h⟩
def i64B (n : Int) : Prop := -9223372036854775808 ≤ n ∧ n ≤ 9223372036854775807
structure Rw where
 nm : Int
 kd : Int
 tt : Int
 ad : Int
structure RwOk (x : Rw) : Prop where
 nm : i64B x.nm
 kd : i64B x.kd
 tt : i64B x.tt
 ad : i64B x.ad
structure Ca where
 kd : Int
 lt : Int
 rw : Rw
 rr : Rc
abbrev caA (x : Ca) : Array Value := #[.int .i64 x.kd, .int .i64 x.lt, .int .i64 x.rw.nm, .int .i64 x.rw.kd, .int .i64 x.rw.tt, .int .i64 x.rw.ad, .string x.rr.nm, .int .i64 x.rr.kd, .int .i64 x.rr.tt, .int .i64 x.rr.ad, .string x.rr.to]
structure RcOk (x : Rc) : Prop where
 nm : x.nm.size ≤ maxLen
 kd : i64B x.kd
 tt : i64B x.tt
 ad : i64B x.ad
 to : x.to.size ≤ maxLen
structure CaOk (x : Ca) : Prop where
 kd : i64B x.kd
 lt : i64B x.lt
 rw : RwOk x.rw
 rr : RcOk x.rr
def RdCa (w : World) (v : Value) (len : Nat) (g : Nat → Ca) : Prop :=
 ∃ a cap, v = .slice a len cap ∧ len ≤ cap ∧ len ≤ 9223372036854775807 ∧ (∀ i, i < len → CaOk (g i)) ∧ (len ≠ 0 → ∃ b o, a = some ⟨b, o, none⟩ ∧ ∀ i, i < len → ∀ j, j < 11 → w.cell? ⟨b, o + i * 11 + j, none⟩ = (caA (g i))[j]?)
theorem RdCa.stay {w w' : World} {v : Value} {len : Nat} {g : Nat → Ca} (h : RdCa w v len g) (hb : Below w.heap.size w w') : RdCa w' v len g := by
 obtain ⟨a, cap, rfl, h1, h2, h3, h4⟩ := h
 refine ⟨a, cap, rfl, h1, h2, h3, fun hn => ?_⟩
 obtain ⟨b, o, rfl, hc⟩ := h4 hn
 refine ⟨b, o, rfl, fun i hi j hj => ?_⟩
 have := hc i hi j hj
 rw [Array.getElem?_eq_getElem (by simpa using hj)] at this ⊢
 exact keep hb this
end Go.Proofs.YtbolfkojebbejaaGreatDoor
