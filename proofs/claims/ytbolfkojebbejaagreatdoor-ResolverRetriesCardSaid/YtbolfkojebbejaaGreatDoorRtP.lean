/- ResolverRetries without the program: silent servers, any list of them. -/
import Derived.Test.YtbolfkojebbejaaGreatDoorLr3
import Derived.Test.YtbolfkojebbejaaGreatDoorRtk
namespace Go.Proofs.YtbolfkojebbejaaGreatDoor
open Go.RowKit Go.Sort
set_option linter.unusedVariables false
set_option maxRecDepth 100000

/-- k + 1 queries have been sent for the name, the last one at time t. -/
def rtZ (sv : List Int) (sd : Int) (nm : ByteArray) (b k : Nat) (t : Int) : Rz := ⟨sv, sd, [], 1, (k : Int) + 1, [(b, ⟨1, [nm], (k : Int) + 1, (k : Int) + 1, t, srvZ sv k⟩)], []⟩
def rtE (sv : List Int) (sd : Int) : Rz := ⟨sv, sd, [], 1, 3 * (sv.length : Int), [], [⟨1, 213, []⟩]⟩
def rtQ (sv : List Int) (sd : Int) (nm : ByteArray) (k : Nat) : Qy := qyZ sd (k : Int) (srvZ sv k) nm
def rt0 (sv : List Int) (sd : Int) : Rz := ⟨sv, sd, [], 0, 0, [], []⟩
section
variable {sv : List Int} {sd : Int} {nm : ByteArray} {b k : Nat} {t t' : Int}
theorem rt_start (h0 : 0 < sv.length) : startZ 0 (rt0 sv sd) b nm = (rtZ sv sd nm b 0 0, [rtQ sv sd nm 0]) := by
 have h1 : rslF 0 [] [] 5 [nm] = ([nm], .ask) := by
  simp [rslF, foundF, knownF, ofN, lookD, recs, srtR, knwD, adF, nxF]
 show (match rslF 0 [] [] 5 [nm] with
  | (ch', .ask) => askZ 0 (pushZ (rt0 sv sd) b nm) 0 b ⟨1, ch', 0, 0, 0, 0⟩
  | (_, .addrs l) => (finZ (pushZ (rt0 sv sd) b nm) 0 1 0 l, [])
  | (_, .fail n) => (finZ (pushZ (rt0 sv sd) b nm) 0 1 n [], [])) = _
 rw [h1]
 show askZ 0 (pushZ (rt0 sv sd) b nm) 0 b ⟨1, [nm], 0, 0, 0, 0⟩ = _
 unfold askZ
 rw [if_neg (by show ¬ 3 * (sv.length : Int) ≤ 0; omega)]
 rfl
theorem rt_no (h : t' < t + 10) : tickZ t' (rtZ sv sd nm b k t) = (rtZ sv sd nm b k t, []) := by
 have h1 : dueB t' ⟨1, [nm], (k : Int) + 1, (k : Int) + 1, t, srvZ sv k⟩ = false := decide_eq_false (show ¬ (t + 10 ≤ t') by omega)
 show (if dueB t' ⟨1, [nm], (k : Int) + 1, (k : Int) + 1, t, srvZ sv k⟩ = true then _ else _) = _
 rw [if_neg (by rw [h1]; decide)]
 rfl
theorem rt_yes (h : t + 10 ≤ t') (hk : k + 1 < 3 * sv.length) : tickZ t' (rtZ sv sd nm b k t) = (rtZ sv sd nm b (k + 1) t', [rtQ sv sd nm (k + 1)]) := by
 have h1 : dueB t' ⟨1, [nm], (k : Int) + 1, (k : Int) + 1, t, srvZ sv k⟩ = true := decide_eq_true (show t + 10 ≤ t' by omega)
 have h3 : askZ t' (agedZ t' (rtZ sv sd nm b k t)) 0 b ⟨1, [nm], (k : Int) + 1, (k : Int) + 1, t, srvZ sv k⟩ = (rtZ sv sd nm b (k + 1) t', [rtQ sv sd nm (k + 1)]) := by
  show (if 3 * (sv.length : Int) ≤ (k : Int) + 1 then _ else _) = _
  rw [if_neg (by omega)]
  rfl
 have h4 : (if 3 * ((agedZ t' (rtZ sv sd nm b k t)).sv.length : Int) ≤ (k : Int) + 1 then 0 else 0 + 1) = 1 := if_neg (show ¬ 3 * (sv.length : Int) ≤ (k : Int) + 1 by omega)
 show (if dueB t' ⟨1, [nm], (k : Int) + 1, (k : Int) + 1, t, srvZ sv k⟩ = true then _ else _) = _
 rw [if_pos h1]
 rw [h3]
 rfl
theorem rt_end (h : t + 10 ≤ t') (hk : k + 1 = 3 * sv.length) : tickZ t' (rtZ sv sd nm b k t) = (rtE sv sd, []) := by
 have h1 : dueB t' ⟨1, [nm], (k : Int) + 1, (k : Int) + 1, t, srvZ sv k⟩ = true := decide_eq_true (show t + 10 ≤ t' by omega)
 have h3 : askZ t' (agedZ t' (rtZ sv sd nm b k t)) 0 b ⟨1, [nm], (k : Int) + 1, (k : Int) + 1, t, srvZ sv k⟩ = (rtE sv sd, []) := by
  show (if 3 * (sv.length : Int) ≤ (k : Int) + 1 then _ else _) = _
  rw [if_pos (by omega)]
  unfold rtE
  rw [show 3 * (sv.length : Int) = (k : Int) + 1 by omega]
  rfl
 show (if dueB t' ⟨1, [nm], (k : Int) + 1, (k : Int) + 1, t, srvZ sv k⟩ = true then _ else _) = _
 rw [if_pos h1]
 rw [h3]
 rfl
theorem rtZ_ok (h0 : 0 < sv.length) (h4 : sv.length ≤ 4) (d0 : 0 ≤ sd) (d1 : sd ≤ 4294967295) (hk : k < 12) (hv : vname nm = true) : ZI (rtZ sv sd nm b k t) :=
 ⟨h0, h4, d0, d1, by show 0 ≤ (k : Int) + 1; omega, by show 1 ≤ 100; decide, fun p hp => by
  obtain rfl := List.mem_singleton.1 hp
  exact ⟨by show 0 < 1; decide, by show 1 ≤ 5; decide, fun s hs => by rw [List.mem_singleton.1 hs]; exact hv, by show 0 ≤ (k : Int) + 1; omega, by show (k : Int) + 1 ≤ 12; omega⟩, by show 0 ≤ 1000; decide, by show 0 ≤ 32; decide, List.Pairwise.nil, fun e he => (by cases he)⟩
theorem rt0_ok (h0 : 0 < sv.length) (h4 : sv.length ≤ 4) (d0 : 0 ≤ sd) (d1 : sd ≤ 4294967295) : ZI (rt0 sv sd) :=
 ⟨h0, h4, d0, d1, by show (0 : Int) ≤ 0; decide, by show 0 ≤ 100; decide, fun p hp => (by cases hp), by show 0 ≤ 1000; decide, by show 0 ≤ 32; decide, List.Pairwise.nil, fun e he => (by cases he)⟩
end

end Go.Proofs.YtbolfkojebbejaaGreatDoor
