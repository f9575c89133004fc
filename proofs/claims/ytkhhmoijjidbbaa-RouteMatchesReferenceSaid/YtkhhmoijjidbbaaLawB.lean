/- Contract of the law's Faces: it builds the interfaces that the plain function says, in new memory. -/
import Derived.Test.YtkhhmoijjidbbaaLawA
namespace Go.Proofs.Ytkhhmoijjidbbaa
open Go.RowKit Go.Sort
set_option linter.unusedVariables false

structure Fr where
  addr : Int
  bits : Int
  mtu : Int
def i64 (x : Int) : Prop := -9223372036854775808 ≤ x ∧ x ≤ 9223372036854775807
def Fr.ok (x : Fr) : Prop := i64 x.addr ∧ i64 x.bits ∧ i64 x.mtu

/-- A slice value that reads as a list of raw interfaces. -/
def RdF (w : World) (v : Value) (n : Nat) (x : Nat → Fr) : Prop :=
  ∃ a cap, v = .slice a n cap ∧ n ≤ cap ∧ n ≤ 9223372036854775807 ∧ (∀ i, i < n → (x i).ok) ∧ (n ≠ 0 → ∃ b o, a = some ⟨b, o, none⟩ ∧ ∀ i, i < n → w.cell? ⟨b, o + i * 3, none⟩ = some (.int .i64 (x i).addr) ∧ w.cell? ⟨b, o + i * 3 + 1, none⟩ = some (.int .i64 (x i).bits) ∧ w.cell? ⟨b, o + i * 3 + 2, none⟩ = some (.int .i64 (x i).mtu))

def faceA (i : Nat) (x : Fr) : Int := 167772160 + pk (x.addr.tdiv 64) 4 * 65536 + pk (x.addr.tdiv 16) 4 * 256 + 16 * i + 1 + pk x.addr 15
def bitsF (k : Int) : Int := if k = 0 then 8 else if k = 1 then 16 else if k = 2 then 24 else if k = 3 then 24 else 28
def mkFace (i : Nat) (x : Fr) : If := ⟨1 + i + 10 * pk x.addr 100, faceA i x, nt (faceA i x) (bitsF (pk x.bits 5)), bitsF (pk x.bits 5), 68 + pk x.mtu 957⟩
def facesTo (x : Nat → Fr) (k : Nat) : List If := (List.range k).map fun i => mkFace i (x i)
def facesF (n : Nat) (x : Nat → Fr) : List If := if n = 0 then [⟨1, 167772161, nt 167772160 24, 24, 500⟩] else facesTo x (min n 4)
def ifc (x : If) : List Value := [.int .i64 x.mac, .int .i64 x.addr, .int .i64 x.na, .int .i64 x.nb, .int .i64 x.mtu]
def ifcs (fs : List If) : List Value := fs.flatMap ifc

theorem facesTo_succ (x : Nat → Fr) (k : Nat) : facesTo x (k + 1) = facesTo x k ++ [mkFace k (x k)] := by simp [facesTo, List.range_succ]
theorem facesTo_len (x : Nat → Fr) (k : Nat) : (facesTo x k).length = k := by simp [facesTo]
theorem ifcs_snoc (fs : List If) (x : If) : ifcs (fs ++ [x]) = ifcs fs ++ ifc x := by simp [ifcs]
theorem ifcs_len (fs : List If) : (ifcs fs).length = fs.length * 5 := by
  induction fs with
  | nil => rfl
  | cons a l ih => simp only [ifcs, List.flatMap_cons, List.length_append] at ih ⊢; rw [ih]; simp [ifc]; omega

theorem ownsRow_stay {w w' : World} {base : Nat} {e : TypeId} {size : Nat} {v : Value} {n : Nat} {xs : List Value} (hb : Below w.heap.size w w') (h : w.ownsRow base e size v n xs) : w'.ownsRow base e size v n xs := by
  obtain ⟨h1, h2⟩ := h
  refine ⟨h1, h2.imp id ?_⟩
  rintro ⟨g, cap, cur, e1, e2, e3, e4⟩
  exact ⟨g, cap, cur, e1, e2, (hb.block g (Array.getElem?_eq_some_iff.1 e3).1).trans e3, e4⟩

theorem ifcs_get (fs : List If) (i : Nat) (h : i < fs.length) (j : Nat) (hj : j < 5) : (ifcs fs)[i * 5 + j]? = (ifc fs[i])[j]? := by
  induction fs generalizing i with
  | nil => simp at h
  | cons a l ih =>
    cases i with
    | zero =>
      simp only [ifcs, List.flatMap_cons, Nat.zero_mul, Nat.zero_add, List.getElem_cons_zero]
      rw [List.getElem?_append_left (by simp [ifc]; exact hj)]
    | succ i =>
      simp only [ifcs, List.flatMap_cons, List.getElem_cons_succ] at ih ⊢
      rw [List.getElem?_append_right (by simp [ifc]; omega), show (i + 1) * 5 + j - (ifc a).length = i * 5 + j by simp [ifc]; omega]
      exact ih i (by simpa using h)

/-- A row that the call owns reads as the list. -/
theorem RdI_of_owns {w : World} {base : Nat} {e : TypeId} {v : Value} {fs : List If} (h : w.ownsRow base e 5 v fs.length (ifcs fs)) (hl : fs.length ≤ 1000) : RdI w v fs := by
  obtain ⟨h1, h2⟩ := h
  rcases h2 with ⟨rfl, hn⟩ | ⟨g, cap, cur, rfl, hg, hc, hcap, _, hsz, htk⟩
  · rw [show fs = [] from List.eq_nil_of_length_eq_zero hn]
    exact ⟨none, 0, rfl, Nat.le_refl _, by simp, fun h => absurd rfl h⟩
  · refine ⟨some ⟨g, 0, none⟩, cap, rfl, hcap, hl, fun _ => ⟨g, 0, rfl, fun i hi => ?_⟩⟩
    have key : ∀ j, j < 5 → w.cell? ⟨g, 0 + i * 5 + j, none⟩ = (ifc (ifAt fs i))[j]? := by
      intro j hj
      rw [ifAt_eq fs i hi, ← ifcs_get fs i hi j hj, ← htk, List.getElem?_take, if_pos (by have := Nat.mul_le_mul_right 5 hi; omega)]
      simp [World.cell?, hc]
    exact ⟨key 0 (by omega), key 1 (by omega), key 2 (by omega), key 3 (by omega), key 4 (by omega)⟩

theorem faceA_bd (i : Nat) (hi : i < 4) (x : Fr) : 167772161 ≤ faceA i x ∧ faceA i x ≤ 167772160 + 200000 := by
  have h1 := pk_bd (x.addr.tdiv 64) 4 (by omega)
  have h2 := pk_bd (x.addr.tdiv 16) 4 (by omega)
  have h3 := pk_bd x.addr 15 (by omega)
  unfold faceA; omega
theorem bitsF_bd (k : Int) : 8 ≤ bitsF k ∧ bitsF k ≤ 28 := by unfold bitsF; split <;> (try split) <;> (try split) <;> (try split) <;> omega

end Go.Proofs.Ytkhhmoijjidbbaa
