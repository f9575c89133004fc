/- FirewallIgnoresFlags without the program: two tables that stay alike. -/
import Derived.Test.YthhoknhjbkkflaaFpl2
namespace Go.Proofs.Ythhoknhjbkkflaa
open Go.RowKit
set_option linter.unusedVariables false

def igS (ky : FK) (la : Int) : FSt := ⟨[], [(ky, ⟨la, 1⟩)], 1⟩
theorem igS_fw {y : Fl} {la T : Int} (hv : validF y = true) (h0 : 0 ≤ la) (h1 : la ≤ T) : FW T 1 (igS (keyF y) la) :=
  ⟨by simp [igS, keysU], by simp [igS]; omega, by simp [igS], by simp [igS], by simp [igS]; exact valid_key hv, by simp [igS]⟩
theorem ig_rst {x : Fl} (hv : validF x = true) (hr : x.rs = true) : didF ⟨[], [], 0⟩ 0 0 x = (true, ⟨[], [], 0⟩) := by
  show passF _ _ _ _ = _
  simp [passF, hv, hr, expF, getU, admitF]
theorem ig_in0 {x : Fl} : didF ⟨[], [], 0⟩ 2 0 x = (false, ⟨[], [], 0⟩) := by
  show passF _ _ _ _ = _
  cases hv : validF x <;> simp [passF, hv, expF, getU, admitF]
theorem ig_quo0 {x : Fl} : didF ⟨[], [], 0⟩ 4 0 x = (false, ⟨[], [], 0⟩) := by
  show (quoF _ _ _, _) = _
  simp [quoF, expF, getU]
theorem ig_out0 {x : Fl} (hv : validF x = true) (hr : x.rs = false) : didF ⟨[], [], 0⟩ 0 0 x = (true, igS (keyF x) 0) := by
  show passF _ _ _ _ = _
  simp [passF, hv, hr, expF, getU, admitF, setU, igS]
theorem ig_exp {ky : FK} {la now : Int} (h : now ≤ la + 400) : expF now (igS ky la).m = (igS ky la).m := by
  have : oldU now ⟨la, 1⟩ = false := old_f.2 h
  simp [igS, expF, this]
def igN (how now la : Int) : Int := if pk how 5 < 4 then now else la
theorem ig_step {ky : FK} {x : Fl} {how la now : Int} (hk : keyF x = ky) (hv : validF x = true) (h : now ≤ la + 400) : didF (igS ky la) how now x = (true, igS ky (igN how now la)) := by
  have hp : ∀ inn, passF (igS ky la) now x inn = (true, igS ky now) := fun inn => by
    simp only [passF, hv, if_true, ig_exp h, hk]
    simp [igS, getU, setU]
  unfold didF igN
  by_cases h1 : pk how 5 < 2
  · rw [if_pos h1, if_pos (by omega), hp]
  · rw [if_neg h1]
    by_cases h2 : pk how 5 < 4
    · rw [if_pos h2, if_pos h2, hp]
    · rw [if_neg h2, if_neg h2]
      have : quoF now x (igS ky la).m = true := by
        simp only [quoF, hv, ig_exp h, hk]; simp [igS, getU]
      rw [this, ig_exp h]
theorem igN_bd {how now la : Int} (h : la ≤ now) (h0 : 0 ≤ la) : 0 ≤ igN how now la ∧ igN how now la ≤ now := by
  unfold igN; split <;> omega
theorem passF_same {st : FSt} {now : Int} {x y : Fl} (hr : st.rl = []) (hk : keyF x = keyF y) : passF st now x true = passF st now y true := by
  have e : ∀ z, admitF st.rl z true = false := fun z => by rw [hr]; rfl
  simp only [passF, valid_flags hk, hk, e]
  simp
theorem ig_same {st : FSt} {now : Int} {x y : Fl} (hr : st.rl = []) (hk : keyF x = keyF y) : didF st 2 now x = didF st 2 now y := passF_same hr hk
theorem ig_quo {ky : FK} {la n : Int} {x : Fl} {q : Bool} {st : FSt} (h : didF (igS ky la) 4 n x = (q, st)) : st.rl = [] ∧ st.m.length ≤ 1 := by
  have h2 : (quoF n x (igS ky la).m, (⟨(igS ky la).rl, expF n (igS ky la).m, (igS ky la).ins⟩ : FSt)) = (q, st) := h
  cases h2
  exact ⟨rfl, expF_len _ _⟩

end Go.Proofs.Ythhoknhjbkkflaa
