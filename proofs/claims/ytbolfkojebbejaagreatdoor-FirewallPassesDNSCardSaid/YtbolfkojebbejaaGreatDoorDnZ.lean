/- FirewallPassesDNS without the program: what the resolver does with three silent servers. -/
import Derived.Test.YtbolfkojebbejaaGreatDoorRtk
import Derived.Test.YtbolfkojebbejaaGreatDoorBl
namespace Go.Proofs.YtbolfkojebbejaaGreatDoor
open Go.RowKit Go.Sort
set_option linter.unusedVariables false
set_option maxRecDepth 100000

def abN : ByteArray := ⟨#[97, 46, 98]⟩
theorem abN_ok : vname abN = true := by decide
/-- Query j (from 0) has been sent last. -/
def dnZ (sd : Int) (b j : Nat) : Rz := ⟨[5, 6, 7], sd, [], 1, (j : Int) + 1, [(b, ⟨1, [abN], (j : Int) + 1, (j : Int) + 1, 10 * (j : Int), dnSv j⟩)], []⟩
def dnE (sd : Int) : Rz := ⟨[5, 6, 7], sd, [], 1, 9, [], [⟨1, 213, []⟩]⟩
def dnQ (sd : Int) (j : Nat) : Qy := qyZ sd (j : Int) (dnSv j) abN
def dn0 (sd : Int) : Rz := ⟨[5, 6, 7], sd, [], 0, 0, [], []⟩
section
variable {sd : Int} {b j : Nat} {t : Int}
theorem dn_srv (j : Nat) : srvZ [5, 6, 7] (j : Int) = dnSv j := by
  unfold srvZ dnSv
  have h : j % 3 = 0 ∨ j % 3 = 1 ∨ j % 3 = 2 := by omega
  rcases h with h | h | h <;> simp [h] <;> omega
theorem dn_start (hb : True) : startZ 0 (dn0 sd) b abN = (dnZ sd b 0, [dnQ sd 0]) := by
  have h1 : rslF 0 [] [] 5 [abN] = ([abN], .ask) := by
    simp [rslF, foundF, knownF, ofN, lookD, recs, srtR, knwD, adF, nxF]
  show (match rslF 0 [] [] 5 [abN] with
    | (ch', .ask) => askZ 0 (pushZ (dn0 sd) b abN) 0 b ⟨1, ch', 0, 0, 0, 0⟩
    | (_, .addrs l) => (finZ (pushZ (dn0 sd) b abN) 0 1 0 l, [])
    | (_, .fail n) => (finZ (pushZ (dn0 sd) b abN) 0 1 n [], [])) = _
  rw [h1]
  rfl
theorem dn_tick_no (h : t < 10 * (j : Int) + 10) : tickZ t (dnZ sd b j) = (dnZ sd b j, []) := by
  have h1 : dueB t ⟨1, [abN], (j : Int) + 1, (j : Int) + 1, 10 * (j : Int), dnSv j⟩ = false := decide_eq_false (show ¬ (10 * (j : Int) + 10 ≤ t) by omega)
  show (if dueB t ⟨1, [abN], (j : Int) + 1, (j : Int) + 1, 10 * (j : Int), dnSv j⟩ = true then _ else _) = _
  rw [if_neg (by rw [h1]; decide)]
  rfl
theorem dn_tick_yes (h : t = 10 * (j : Int) + 10) (hj : j < 8) : tickZ t (dnZ sd b j) = (dnZ sd b (j + 1), [dnQ sd (j + 1)]) := by
  have h1 : dueB t ⟨1, [abN], (j : Int) + 1, (j : Int) + 1, 10 * (j : Int), dnSv j⟩ = true := decide_eq_true (show 10 * (j : Int) + 10 ≤ t by omega)
  have h2 : ¬ 3 * (([5, 6, 7] : List Int).length : Int) ≤ (j : Int) + 1 := by simp; omega
  have hs : srvZ [5, 6, 7] ((j : Int) + 1) = dnSv (j + 1) := by rw [← dn_srv]; rfl
  have h3 : askZ t (agedZ t (dnZ sd b j)) 0 b ⟨1, [abN], (j : Int) + 1, (j : Int) + 1, 10 * (j : Int), dnSv j⟩ = (dnZ sd b (j + 1), [dnQ sd (j + 1)]) := by
    show (if 3 * (([5, 6, 7] : List Int).length : Int) ≤ (j : Int) + 1 then _ else _) = _
    rw [if_neg h2]
    show ((⟨[5, 6, 7], sd, [], 1, (j : Int) + 1 + 1, [(b, ⟨1, [abN], (j : Int) + 1 + 1, (j : Int) + 1 + 1, t, srvZ [5, 6, 7] ((j : Int) + 1)⟩)], []⟩ : Rz), [qyZ sd ((j : Int) + 1) (srvZ [5, 6, 7] ((j : Int) + 1)) abN]) = _
    rw [hs, show t = 10 * ((j + 1 : Nat) : Int) by omega]
    rfl
  show (if dueB t ⟨1, [abN], (j : Int) + 1, (j : Int) + 1, 10 * (j : Int), dnSv j⟩ = true then _ else _) = _
  rw [if_pos h1]
  rw [h3]
  rfl
theorem dn_tick_end (h : t = 90) : tickZ t (dnZ sd b 8) = (dnE sd, []) := by
  subst h
  rfl
theorem dn_tick_E : tickZ t (dnE sd) = (dnE sd, []) := rfl
theorem dnZ_ok (h0 : 0 ≤ sd) (h1 : sd ≤ 4294967295) (hj : j ≤ 8) : ZI (dnZ sd b j) :=
  ⟨by show 0 < 3; decide, by show 3 ≤ 4; decide, h0, h1, by show 0 ≤ (j : Int) + 1; omega, by show 1 ≤ 100; decide, fun p hp => by
    obtain rfl := List.mem_singleton.1 hp
    exact ⟨by show 0 < 1; decide, by show 1 ≤ 5; decide, fun s hs => by rw [List.mem_singleton.1 hs]; exact abN_ok, by show 0 ≤ (j : Int) + 1; omega, by show (j : Int) + 1 ≤ 12; omega⟩, by show 0 ≤ 1000; decide, by show 0 ≤ 32; decide, List.Pairwise.nil, fun e he => (by cases he)⟩
theorem dnE_ok (h0 : 0 ≤ sd) (h1 : sd ≤ 4294967295) : ZI (dnE sd) :=
  ⟨by show 0 < 3; decide, by show 3 ≤ 4; decide, h0, h1, by show (0 : Int) ≤ 9; decide, by show 0 ≤ 100; decide, fun p hp => (by cases hp), by show 1 ≤ 1000; decide, by show 0 ≤ 32; decide, List.Pairwise.nil, fun e he => (by cases he)⟩
theorem dn0_ok (h0 : 0 ≤ sd) (h1 : sd ≤ 4294967295) : ZI (dn0 sd) :=
  ⟨by show 0 < 3; decide, by show 3 ≤ 4; decide, h0, h1, by show (0 : Int) ≤ 0; decide, by show 0 ≤ 100; decide, fun p hp => (by cases hp), by show 0 ≤ 1000; decide, by show 0 ≤ 32; decide, List.Pairwise.nil, fun e he => (by cases he)⟩
theorem newZ {w0 w : World} {D : Nat → Prop} {L : List Res} {a : Nat} {xs : List Int} (h : Own w0 D w (L ++ [resV a ⟨xs, sd, [], 0, 0, [], 0, []⟩])) : Own w0 D w (L ++ [resZ a ⟨xs, sd, [], 0, 0, [], []⟩]) := by
  have h1 : Own w0 D w (resV a ⟨xs, sd, [], 0, 0, [], 0, []⟩ :: L) := h.perm List.perm_append_comm
  have h2 : Own w0 D w (sepR [] :: resV a ⟨xs, sd, [], 0, 0, [], 0, []⟩ :: L) := Own.shutC (Rs := []) h1
  have h3 : Own w0 D w (resKs [] :: sepR [] :: resV a ⟨xs, sd, [], 0, 0, [], 0, []⟩ :: L) := Own.shutC (Rs := []) h2
  have h4 : Own w0 D w (resV a ⟨xs, sd, [], 0, 0, [], 0, []⟩ :: resKs [] :: sepR [] :: L) := h3.perm (List.perm_middle (l₁ := [resKs [], sepR []]))
  have h5 : Own w0 D w (resZ a ⟨xs, sd, [], 0, 0, [], []⟩ :: L) := shutZ (avs := []) (z := ⟨xs, sd, [], 0, 0, [], []⟩) rfl h4
  exact h5.perm (List.perm_append_comm (l₁ := [resZ a ⟨xs, sd, [], 0, 0, [], []⟩]))
end

end Go.Proofs.YtbolfkojebbejaaGreatDoor
