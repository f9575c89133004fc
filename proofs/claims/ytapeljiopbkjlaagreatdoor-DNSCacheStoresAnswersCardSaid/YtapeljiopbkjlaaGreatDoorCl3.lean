/- Contracts of the laws' helpers of chapter 20: programDo, made. Printed by wip/tools/gen20o.py. Contract of made of chapter 20. Printed by wip/tools/gen20p.py. -/
import Derived.Test.YtapeljiopbkjlaaGreatDoorCl1
import Derived.Test.YtapeljiopbkjlaaGreatDoorCneg
import Derived.Test.YtapeljiopbkjlaaGreatDoorCnl
namespace Go.Proofs.YtapeljiopbkjlaaGreatDoor
open Go.RowKit Go.Sort
set_option linter.unusedVariables false
set_option maxRecDepth 100000

structure Ca where
  kd : Int
  lt : Int
  rw : Rw
  rr : Rc
abbrev caA (x : Ca) : Array Value := #[.int .i64 x.kd, .int .i64 x.lt, .int .i64 x.rw.nm, .int .i64 x.rw.kd, .int .i64 x.rw.tt, .int .i64 x.rw.ad, .string x.rr.nm, .int .i64 x.rr.kd, .int .i64 x.rr.tt, .int .i64 x.rr.ad, .string x.rr.to]
abbrev caV (x : Ca) : Value := .agg (caA x)
structure RcOk (x : Rc) : Prop where
  nm : x.nm.size ≤ maxLen
  kd : i64B x.kd
  tt : i64B x.tt
  ad : i64B x.ad
  to : x.to.size ≤ maxLen
structure CaOk (x : Ca) : Prop where
  kd : i64B x.kd
  lt : i64B x.lt
  rw : RwOk x.rw
  rr : RcOk x.rr
theorem recF_ok {x : Rw} : (recF x).nm.size ≤ maxLen ∧ (recF x).to.size ≤ maxLen := by
  unfold recF
  split
  · exact ⟨nmF_max _, nmF_max _⟩
  · exact ⟨nmF_max _, Nat.zero_le _⟩
def doF (now : Int) (x : Ca) (l : List En) : List En :=
  if x.kd = 0 then putF now (recF x.rw) l else if x.kd = 1 then putF now x.rr l else if x.kd = 2 then negF now (nmF x.rw.nm) (pk x.rw.tt 30) l else if x.kd = 3 then negF now x.rr.nm x.rr.tt l else tickF now l
def doE (now : Int) (x : Ca) : Int :=
  if x.kd = 0 then putE now (recF x.rw) else if x.kd = 1 then putE now x.rr else if x.kd = 2 then negE now (nmF x.rw.nm) (pk x.rw.tt 30) else if x.kd = 3 then negE now x.rr.nm x.rr.tt else 0
end Go.Proofs.YtapeljiopbkjlaaGreatDoor

namespace Go.Proofs.YtapeljiopbkjlaaGreatDoor
open Go.RowKit Go.Sort
set_option linter.unusedVariables false
set_option maxRecDepth 100000

/-- A slice of calls that came in. -/
def RdCa (w : World) (v : Value) (len : Nat) (g : Nat → Ca) : Prop :=
  ∃ a cap, v = .slice a len cap ∧ len ≤ cap ∧ len ≤ 9223372036854775807 ∧ (∀ i, i < len → CaOk (g i)) ∧ (len ≠ 0 → ∃ b o, a = some ⟨b, o, none⟩ ∧ ∀ i, i < len → ∀ j, j < 11 → w.cell? ⟨b, o + i * 11 + j, none⟩ = (caA (g i))[j]?)
theorem RdCa.stay {w w' : World} {v : Value} {len : Nat} {g : Nat → Ca} (h : RdCa w v len g) (hb : Below w.heap.size w w') : RdCa w' v len g := by
  obtain ⟨a, cap, rfl, h1, h2, h3, h4⟩ := h
  refine ⟨a, cap, rfl, h1, h2, h3, fun hn => ?_⟩
  obtain ⟨b, o, rfl, hc⟩ := h4 hn
  refine ⟨b, o, rfl, fun i hi j hj => ?_⟩
  have := hc i hi j hj
  rw [Array.getElem?_eq_getElem (by simpa using hj)] at this ⊢
  exact keep hb this
def madeOn (x : Ca) : Bool := x.kd == 0 || x.kd == 2 || x.kd == 4
def madeS (now : Int) (g : Nat → Ca) : Nat → Int × List En
  | 0 => (pk now 1000000, [])
  | k + 1 => ((madeS now g k).1 + pk (g k).lt 8, if madeOn (g k) then doF ((madeS now g k).1 + pk (g k).lt 8) (g k) (madeS now g k).2 else (madeS now g k).2)
theorem storeF_len {l : List En} {e : En} (h : l.length ≤ 32) : (storeF l e).length ≤ 32 := by
  unfold storeF
  split
  · rw [List.length_append, evictF_len (by omega)]; simp; omega
  · simp; omega
theorem putF_len {now : Int} {r : Rc} {l : List En} (h : l.length ≤ 32) : (putF now r l).length ≤ 32 := by
  unfold putF
  split
  · exact storeF_len (Nat.le_trans (List.length_filter_le _ _) h)
  · exact h
theorem negF_len {now : Int} {nm : ByteArray} {tt : Int} {l : List En} (h : l.length ≤ 32) : (negF now nm tt l).length ≤ 32 := by
  unfold negF
  split
  · exact storeF_len (Nat.le_trans (List.length_filter_le _ _) h)
  · exact h
theorem tickF_len {now : Int} {l : List En} (h : l.length ≤ 32) : (tickF now l).length ≤ 32 := Nat.le_trans (List.length_filter_le _ _) h
theorem doF_len {now : Int} {x : Ca} {l : List En} (h : l.length ≤ 32) : (doF now x l).length ≤ 32 := by
  unfold doF
  split
  · exact putF_len h
  · split
    · exact putF_len h
    · split
      · exact negF_len h
      · split
        · exact negF_len h
        · exact tickF_len h
theorem madeS_len (now : Int) (g : Nat → Ca) : ∀ k, (madeS now g k).2.length ≤ 32
  | 0 => Nat.zero_le _
  | k + 1 => by
    have := madeS_len now g k
    simp only [madeS]
    split
    · exact doF_len this
    · exact this
theorem madeS_time (now : Int) (g : Nat → Ca) : ∀ k, 0 ≤ (madeS now g k).1 ∧ (madeS now g k).1 ≤ 1000000 + 8 * (k : Int)
  | 0 => by have := pk_bd now 1000000 (by decide); simp only [madeS]; omega
  | k + 1 => by
    have := madeS_time now g k
    have := pk_bd (g k).lt 8 (by decide)
    simp only [madeS]
    omega
def MadePost (w0 : World) (L : List Res) (tl : Int × List En) (w : World) (e : Ending) (w' : World) : Prop :=
  ∃ c, e = .returned (.tuple #[.pointer (some ⟨c, 0, none⟩), .int .i64 tl.1]) ∧ Own w0 none0 w' (L ++ [resC c tl.2]) ∧ w.heap.size ≤ w'.heap.size
end Go.Proofs.YtapeljiopbkjlaaGreatDoor
