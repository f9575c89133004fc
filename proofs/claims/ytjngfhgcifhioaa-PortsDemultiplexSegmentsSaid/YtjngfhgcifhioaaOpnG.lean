/- The arguments of laws, opened: small integers, and slices of elements of n cells. -/
import Derived.Test.YtjngfhgcifhioaaUpd
import Derived.Test.YtjngfhgcifhioaaProg
import Derived.Deep.Slices
import Derived.Deep.Strs
import Derived.Lib.SmallJoins
namespace Go.Proofs.Ytjngfhgcifhioaa
open Go.RowKit Go.Sort Go.Deep
open Go.ChangeShapes Go.WideShapes
set_option linter.unusedVariables false
set_option maxRecDepth 100000

theorem spot_none {w : World} {a : Addr} {v : Value} (h : w.cell? a = some v) : a = ⟨a.block, a.off, none⟩ := by
  obtain ⟨b, o, s⟩ := a
  cases s with
  | none => rfl
  | some s =>
    simp only [World.cell?] at h
    split at h
    · simp at h
    · cases h
theorem wf_i64 {n : Int} (h : (Lit.int .i64 n).wf = true) : -9223372036854775808 ≤ n ∧ n ≤ 9223372036854775807 := by
  simpa [Lit.wf, IntKind.min, IntKind.max, IntKind.signed, IntKind.bits] using h
theorem wf_u8 {n : Int} (h : (Lit.int .u8 n).wf = true) : 0 ≤ n ∧ n ≤ 255 := by
  simpa [Lit.wf, IntKind.min, IntKind.max, IntKind.signed, IntKind.bits] using h
theorem wf_u16 {n : Int} (h : (Lit.int .u16 n).wf = true) : 0 ≤ n ∧ n ≤ 65535 := by
  simpa [Lit.wf, IntKind.min, IntKind.max, IntKind.signed, IntKind.bits] using h
theorem add_mk (b o j : Nat) : (⟨b, o, none⟩ : Addr).add j = ⟨b, o + j, none⟩ := by
  unfold Addr.add
  split
  · rename_i h; have : j = 0 := by simpa using h
    subst this; rfl
  · rfl
theorem cells_at {w : World} {b o n : Nat} {cs : List Value} (h : w.cells? 0 ⟨b, o, none⟩ n = some cs) : cs.length = n ∧ ∀ j, j < n → w.cell? ⟨b, o + j, none⟩ = cs[j]? := by
  obtain ⟨_, h2, h3⟩ := World.cells?_some h
  exact ⟨h2, fun j hj => by have := h3 j hj; rwa [add_mk] at this⟩
theorem cellsI : Try.prog.cellsOf 3 = 1 := by kernel_rfl

/-- A slice value whose elements read, n cells each, as the rows of f. -/
def RdV (w : World) (v : Value) (len n : Nat) (f : Nat → List Value) : Prop :=
  ∃ a cap, v = .slice a len cap ∧ len ≤ cap ∧ len ≤ 9223372036854775807 ∧ (len ≠ 0 → ∃ b o, a = some ⟨b, o, none⟩ ∧ ∀ i, i < len → ∀ j, j < n → w.cell? ⟨b, o + i * n + j, none⟩ = (f i)[j]?)
theorem RdV.stay {w w' : World} {v : Value} {len n : Nat} {f : Nat → List Value} (h : RdV w v len n f) (hl : ∀ i, i < len → (f i).length = n) (hb : Below w.heap.size w w') : RdV w' v len n f := by
  obtain ⟨a, cap, rfl, h1, h2, h3⟩ := h
  refine ⟨a, cap, rfl, h1, h2, fun hn => ?_⟩
  obtain ⟨b, o, rfl, hc⟩ := h3 hn
  refine ⟨b, o, rfl, fun i hi j hj => ?_⟩
  have := hc i hi j hj
  rw [List.getElem?_eq_getElem (by rw [hl i hi]; exact hj)] at this ⊢
  exact keep hb this

theorem open_rows {H : Type} {enc : TypeId × Value → H} {W : World} {a : Option Addr} {len cap fuel n : Nat} {x : DataW H × List MemPlace} {t e : TypeId} (ht : Try.prog.underlying t = some (.slice e)) (hc2 : Try.prog.cellsOf e = n) (hn : 0 < n)
    (Q : List Value → Prop) (hop : ∀ {fuel : Nat} {cs : List Value} {x : DataW H × List MemPlace}, cs.length = n → DataW.trod enc Try.prog W 0 (fun _ => true) true fuel e cs = some x → Q cs)
    (h : DataW.trod enc Try.prog W 0 (fun _ => true) true fuel t [.slice a len cap] = some x) : ∃ f, RdV W (.slice a len cap) len n f ∧ ∀ i, i < len → (f i).length = n ∧ Q (f i) := by
  rcases open_slice ht h with ⟨hcs, _⟩ | ⟨ad, l, c, m, n', D, Pl, hcs, _, hl, hm, hmm, _, hel⟩
  · simp at hcs
    obtain ⟨rfl, rfl, rfl⟩ := hcs
    exact ⟨fun _ => [], ⟨none, 0, rfl, Nat.le_refl _, by simp, fun h => absurd rfl h⟩, fun i hi => absurd hi (by omega)⟩
  · simp at hcs
    obtain ⟨rfl, rfl, rfl⟩ := hcs
    simp only [if_true] at hmm
    subst hmm
    rw [hc2] at hel
    by_cases h0 : len = 0
    · subst h0
      exact ⟨fun _ => [], ⟨some ad, m, rfl, Nat.zero_le _, by simp, fun h => absurd rfl h⟩, fun i hi => absurd hi (by omega)⟩
    · obtain ⟨cs0, hc0, _⟩ := hel 0 (by omega)
      have hsp := spot_none (w := W) (a := ad) (v := cs0.getD 0 undef) (by
        obtain ⟨_, h2, h3⟩ := World.cells?_some hc0
        have := h3 0 (by omega)
        have e : (ad.add (0 * n)).add 0 = ad := by simp [Addr.add]
        rw [e] at this
        rw [this]
        simp [List.getElem?_eq_getElem (show 0 < cs0.length by omega)])
      have key : ∀ i, i < len → ∃ cs : List Value, (cs.length = n ∧ Q cs) ∧ ∀ j, j < n → W.cell? ⟨ad.block, ad.off + i * n + j, none⟩ = cs[j]? := by
        intro i hi
        obtain ⟨cs, hc, ht⟩ := hel i (by omega)
        have e : ad.add (i * n) = ⟨ad.block, ad.off + i * n, none⟩ := by
          have := add_mk ad.block ad.off (i * n)
          rwa [← hsp] at this
        rw [e] at hc
        obtain ⟨hlen, hcell⟩ := cells_at hc
        exact ⟨cs, ⟨hlen, hop hlen ht⟩, hcell⟩
      obtain ⟨f, hf⟩ := @choose_lt (List Value) ⟨[]⟩ len _ key
      exact ⟨f, ⟨some ad, m, rfl, hl, by unfold maxLen at hm; omega, fun _ => ⟨ad.block, ad.off, by rw [hsp], fun i hi => (hf i hi).2⟩⟩, fun i hi => (hf i hi).1⟩

end Go.Proofs.Ytjngfhgcifhioaa
