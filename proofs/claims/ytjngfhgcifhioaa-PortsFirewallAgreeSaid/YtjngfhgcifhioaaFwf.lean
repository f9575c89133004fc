/- In, Out and Quoted while the table has room: the deterministic forms. -/
import Derived.Test.YtjngfhgcifhioaaFw10
namespace Go.Proofs.Ytjngfhgcifhioaa
open Go.RowKit Go.Sort
set_option linter.unusedVariables false
set_option maxRecDepth 100000

/-- The tables that the laws meet: times up to T, N entries ever made. -/
structure FW (T N : Int) (st : FSt) : Prop where
  nd : (keysU st.m).Nodup
  tm : ∀ x ∈ st.m, 0 ≤ x.2.la ∧ x.2.la ≤ T
  ins : 0 ≤ st.ins ∧ st.ins ≤ N
  rl : st.rl.length ≤ 1000
  nz : ∀ x ∈ st.m, x.1 ≠ ⟨0, 0, 0, 0, 0⟩
  len : st.m.length ≤ 32
theorem FW.fi {T N : Int} {st : FSt} (h : FW T N st) (hT : T ≤ 1000000000) (hN : N ≤ 1000000000) : FI st :=
  ⟨h.nd, fun x hx => by have := h.tm x hx; unfold timeB; omega, by have := h.ins; unfold timeB; omega, h.rl⟩
/-- What passes does while the table has room. -/
def passF (st : FSt) (now : Int) (x : Fl) (inn : Bool) : Bool × FSt :=
  if validF x then match getU (keyF x) (expF now st.m) with
    | some u => (true, ⟨st.rl, setU (keyF x) ⟨now, u.nu⟩ (expF now st.m), st.ins⟩)
    | none => if admitF st.rl x inn then (if x.rs then (true, ⟨st.rl, expF now st.m, st.ins⟩) else (true, ⟨st.rl, setU (keyF x) ⟨now, st.ins + 1⟩ (expF now st.m), st.ins + 1⟩)) else (false, ⟨st.rl, expF now st.m, st.ins⟩)
  else (false, ⟨st.rl, expF now st.m, st.ins⟩)
theorem passR_f {st : FSt} {now : Int} {x : Fl} {inn r : Bool} {st' : FSt} (h : PassR st now x inn r st') (hl : st.m.length < 32) : r = (passF st now x inn).1 ∧ st' = (passF st now x inn).2 := by
  have hl2 := exp_len now st.m
  unfold passF
  rcases h with ⟨h1, rfl, rfl⟩ | ⟨h1, u, h2, rfl, rfl⟩ | ⟨h1, h2, h3, rfl, rfl⟩ | ⟨h1, h2, h3, rfl, h5, rfl⟩ | ⟨h1, h2, h3, rfl, h5, m1, hm, rfl⟩
  · simp [h1]
  · simp [h1, h2]
  · simp [h1, h2, h3]
  · simp [h1, h2, h3, h5]
  · rcases hm with ⟨_, rfl⟩ | ⟨h6, _⟩
    · simp [h1, h2, h3, h5]
    · omega
theorem Own.toRow {w0 w : World} {D : Nat → Prop} {L : List Res} (h : Own w0 D w L) (i : Nat) {b : Nat} {cs : List Value} {E : TypeId} (n sz : Nat) (hi : L[i]? = some (blkR b (.cells cs.toArray E))) (hl : cs.length = n * sz) (hn : n ≤ 1000) : Own w0 D w (L.set i (rowR (.slice (some ⟨b, 0, none⟩) n n) E sz n cs)) := by
  obtain ⟨F, h1, _, h3⟩ := h.step hi
  refine h3 (R' := rowR (.slice (some ⟨b, 0, none⟩) n n) E sz n cs) (F' := F) ⟨fun x => ?_, hl, .inr ⟨b, n, cs.toArray, rfl, Nat.zero_le _, h1.2, Nat.le_refl _, by unfold maxLen; omega, by simpa using hl, by simp [← hl]⟩⟩ (fun _ h => .inl h) (Upd.refl _ _)
  rw [h1.1 x]
  exact ⟨fun e => by rw [e]; rfl, fun e => by injection e with e; exact e.symm⟩
def fwOk (T N : Int) (st : FSt) : Bool := decide (keysU st.m).Nodup && st.m.all (fun x => decide (0 ≤ x.2.la) && decide (x.2.la ≤ T) && decide (x.1 ≠ ⟨0, 0, 0, 0, 0⟩)) && decide (0 ≤ st.ins) && decide (st.ins ≤ N) && decide (st.rl.length ≤ 1000) && decide (st.m.length < 32)
theorem fw_of {T N : Int} {st : FSt} (h : fwOk T N st = true) : FW T N st ∧ st.m.length < 32 := by
  simp only [fwOk, Bool.and_eq_true, decide_eq_true_eq, List.all_eq_true] at h
  obtain ⟨⟨⟨⟨⟨h1, h2⟩, h3⟩, h4⟩, h5⟩, h6⟩ := h
  exact ⟨⟨h1, fun x hx => (h2 x hx).1, ⟨h3, h4⟩, h5, fun x hx => (h2 x hx).2, by omega⟩, h6⟩
section
variable {w0 w : World} {D : Nat → Prop} {L : List Res} {f : Nat} {st st' : FSt}
theorem in_f {T N now : Int} {x : Fl} {b : Bool} (h : Own w0 D w L) (i : Nat) (hi : L[i]? = some (resF f st)) (hF : passF st now x true = (b, st')) (hW : fwOk T N st = true) (hT : T ≤ 1000000000) (hN : N ≤ 1000000000) (hnow : timeB now) :
    Calls Try.prog 11 #[.pointer (some ⟨f, 0, none⟩), .int .i64 now, flV x] w (OPost w0 D (L.set i (resF f st')) (.bool b) w) := by
  obtain ⟨hW, hl⟩ := fw_of hW
  refine (in_o h i hi (hW.fi hT hN) hW.nz (by omega) hnow).mono ?_
  rintro e w' ⟨⟨b2, st2⟩, v, ⟨hP, rfl⟩, rfl, hO, hs⟩
  obtain ⟨h1, h2⟩ := passR_f hP hl
  rw [hF] at h1 h2
  simp only at h1 h2
  subst h1 h2
  exact ⟨rfl, hO, hs⟩
theorem out_f {T N now : Int} {x : Fl} {b : Bool} (h : Own w0 D w L) (i : Nat) (hi : L[i]? = some (resF f st)) (hF : passF st now x false = (b, st')) (hW : fwOk T N st = true) (hT : T ≤ 1000000000) (hN : N ≤ 1000000000) (hnow : timeB now) :
    Calls Try.prog 10 #[.pointer (some ⟨f, 0, none⟩), .int .i64 now, flV x] w (OPost w0 D (L.set i (resF f st')) (.bool b) w) := by
  obtain ⟨hW, hl⟩ := fw_of hW
  refine (out_o h i hi (hW.fi hT hN) hW.nz (by omega) hnow).mono ?_
  rintro e w' ⟨⟨b2, st2⟩, v, ⟨hP, rfl⟩, rfl, hO, hs⟩
  obtain ⟨h1, h2⟩ := passR_f hP hl
  rw [hF] at h1 h2
  simp only at h1 h2
  subst h1 h2
  exact ⟨rfl, hO, hs⟩
end

end Go.Proofs.Ytjngfhgcifhioaa
