/- A machine of symbolic values: SocketPortsExclusive, walked. -/
import Derived.Test.YtockaipodnapjaaGreatDoorVr
namespace Go.Proofs.YtockaipodnapjaaGreatDoor
open Go Go.RowKit
set_option linter.unusedVariables false
set_option maxRecDepth 100000
def peLt (p s port seed : Int) : Obs := [(keq (Key.p 17 p) (Key.p 6 p), false), (keq (Key.p 17 p) (Key.p 6 p), false), (!!ilt 65535 p, false), (!ilt p 1, true), (!ilt p 1, true), (!ilt p 1, true), (ieq p 0, false), (!!ilt 65535 p, false), (!ilt p 0, true), (!ilt p 0, true), (!ilt p 0, true), (!ilt p 0, true), (keq (Key.p 17 p) (Key.p 17 p), true), (keq (Key.p 6 p) (Key.p 17 p), false), (keq (Key.p 6 p) (Key.p 17 p), false), (!!ilt 65535 p, false), (!ilt p 1, true), (!ilt p 1, true), (!ilt p 1, true), (ieq p 0, false), (!!ilt 65535 p, false), (!ilt p 0, true), (!ilt p 0, true), (!ilt p 0, true), (!ilt p 0, true), (keq (Key.p 17 p) (Key.p 17 p), true), (!!ilt 65535 p, false), (!ilt p 1, true), (!ilt p 1, true), (!ilt p 1, true), (ieq p 0, false), (!!ilt 65535 p, false), (!ilt p 0, true), (!ilt p 0, true), (!ilt p 0, true), (!ilt p 0, true), (!!ilt 65535 p, false), (!ilt p 1, true), (!ilt p 1, true), (!ilt p 1, true), (ieq p 0, false), (!!ilt 65535 p, false), (!ilt p 0, true), (!ilt p 0, true), (!ilt p 0, true), (!ilt p 0, true), (inR p, true), (inR port && ilt 0 65535, true), (ilt 4294967295 s, false), (ilt s 0, false), (ilt s 0, false), (ilt s 0, false), (inR seed && ilt 0 4294967296, true)]
theorem pe_runt (seed port : Int) : runG kofX tblR 400 7 [.int true .i64 seed, .int true .i64 port, .bool false true] [false, false, false, false, true, true, true, true, false, false, true, true, true, false, true, true, true, true, false, false, true, true, true, false, true, true, true, true, true, false, false, true, true, true, false, false, false, true, true, true, true, true, false, false, true, true, true, false, false, false] =
  some (peLt (Int.add 1 (pickF port 65535)) (pickF seed 4294967296) port seed, [.bool true (ieq (Int.add 1 (pickF port 65535)) (Int.add 1 (pickF port 65535)))], 0) := by kernel_rfl
def peLf (p s port seed : Int) : Obs := [(keq (Key.p 6 p) (Key.p 17 p), false), (keq (Key.p 6 p) (Key.p 17 p), false), (!!ilt 65535 p, false), (!ilt p 1, true), (!ilt p 1, true), (!ilt p 1, true), (ieq p 0, false), (!!ilt 65535 p, false), (!ilt p 0, true), (!ilt p 0, true), (!ilt p 0, true), (!ilt p 0, true), (keq (Key.p 6 p) (Key.p 6 p), true), (keq (Key.p 17 p) (Key.p 6 p), false), (keq (Key.p 17 p) (Key.p 6 p), false), (!!ilt 65535 p, false), (!ilt p 1, true), (!ilt p 1, true), (!ilt p 1, true), (ieq p 0, false), (!!ilt 65535 p, false), (!ilt p 0, true), (!ilt p 0, true), (!ilt p 0, true), (!ilt p 0, true), (keq (Key.p 6 p) (Key.p 6 p), true), (!!ilt 65535 p, false), (!ilt p 1, true), (!ilt p 1, true), (!ilt p 1, true), (ieq p 0, false), (!!ilt 65535 p, false), (!ilt p 0, true), (!ilt p 0, true), (!ilt p 0, true), (!ilt p 0, true), (!!ilt 65535 p, false), (!ilt p 1, true), (!ilt p 1, true), (!ilt p 1, true), (ieq p 0, false), (!!ilt 65535 p, false), (!ilt p 0, true), (!ilt p 0, true), (!ilt p 0, true), (!ilt p 0, true), (inR p, true), (inR port && ilt 0 65535, true), (ilt 4294967295 s, false), (ilt s 0, false), (ilt s 0, false), (ilt s 0, false), (inR seed && ilt 0 4294967296, true)]
theorem pe_runf (seed port : Int) : runG kofX tblR 400 7 [.int true .i64 seed, .int true .i64 port, .bool false false] [false, false, false, false, true, true, true, true, false, false, true, true, true, false, true, true, true, true, false, false, true, true, true, false, true, true, true, true, true, false, false, true, true, true, false, false, false, true, true, true, true, true, false, false, true, true, true, false, false, false] =
  some (peLf (Int.add 1 (pickF port 65535)) (pickF seed 4294967296) port seed, [.bool true (ieq (Int.add 1 (pickF port 65535)) (Int.add 1 (pickF port 65535)))], 0) := by kernel_rfl
theorem keq_same (a b : Int) : keq (Key.p a b) (Key.p a b) = true := by rw [keq_dec]; exact decide_eq_true rfl
theorem peT_ok {p s port seed : Int} (p1 : 1 ≤ p) (p2 : p ≤ 65535) (s1 : 0 ≤ s) (s2 : s < 4294967296) (hp : inR port = true) (hs : inR seed = true) : okObs (peLt p s port seed) := by
  unfold peLt
  repeat' first | exact okO_nil | refine okO_cons ?_ ?_
  all_goals first | exact keq_same _ _ | (rw [keq_dec]; exact decide_eq_false (by simp)) | exact not_ilt (by omega) | exact nnot_ilt (by omega) | exact ilt_f (by omega) | exact ieq_f (by omega) | exact inR_t (by omega) (by omega) | (rw [hp]; rfl) | (rw [hs]; rfl)
theorem peF_ok {p s port seed : Int} (p1 : 1 ≤ p) (p2 : p ≤ 65535) (s1 : 0 ≤ s) (s2 : s < 4294967296) (hp : inR port = true) (hs : inR seed = true) : okObs (peLf p s port seed) := by
  unfold peLf
  repeat' first | exact okO_nil | refine okO_cons ?_ ?_
  all_goals first | exact keq_same _ _ | (rw [keq_dec]; exact decide_eq_false (by simp)) | exact not_ilt (by omega) | exact nnot_ilt (by omega) | exact ilt_f (by omega) | exact ieq_f (by omega) | exact inR_t (by omega) (by omega) | (rw [hp]; rfl) | (rw [hs]; rfl)
theorem row_end {f : FuncId} {args : Array Value} {c : Bool} {w : World} (hc : c = true) (h : Calls Tryz.prog f args w fun e w' => e = .returned ((V.bool true c).den ρ0) ∧ Below w.heap.size w w') : Calls Tryz.prog f args w fun e w' => e = .returned (.bool true) ∧ Below w.heap.size w w' := by
  subst hc; exact h
theorem portsExclusive_w (seed port : Int) (plain : Bool) (w : World) (hw : Glbs w) (hs : inR seed = true) (hp : inR port = true) : Calls Tryz.prog 7 #[.int .i64 seed, .int .i64 port, .bool plain] w fun e w' => e = .returned (.bool true) ∧ Below w.heap.size w w' := by
  have h1 := pickF_rg port (n := 65535) (by decide)
  have h2 := pickF_rg seed (n := 4294967296) (by decide)
  have a1 : 1 ≤ Int.add 1 (pickF port 65535) := by show (1 : Int) ≤ 1 + pickF port 65535; omega
  have a2 : Int.add 1 (pickF port 65535) ≤ 65535 := by show 1 + pickF port 65535 ≤ 65535; omega
  cases plain with
  | true => exact row_end (ieq_t rfl) (vm_row (args := [.int true .i64 seed, .int true .i64 port, .bool false true]) entrX tblR_ok rfl rfl (pe_runt seed port) (peT_ok a1 a2 h2.1 h2.2 hp hs) w hw)
  | false => exact row_end (ieq_t rfl) (vm_row (args := [.int true .i64 seed, .int true .i64 port, .bool false false]) entrX tblR_ok rfl rfl (pe_runf seed port) (peF_ok a1 a2 h2.1 h2.2 hp hs) w hw)
end Go.Proofs.YtockaipodnapjaaGreatDoor

