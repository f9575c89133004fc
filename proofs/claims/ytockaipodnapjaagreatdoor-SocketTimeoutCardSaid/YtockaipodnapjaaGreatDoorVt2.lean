/- A machine of symbolic values: SocketTimeout, first = true. -/
import Derived.Test.YtockaipodnapjaaGreatDoorVt1
namespace Go.Proofs.YtockaipodnapjaaGreatDoor
open Go Go.RowKit
set_option linter.unusedVariables false
set_option maxRecDepth 100000
def toF : List (Pl Nat) := [(MS.getD 0 .none), (MS.getD 1 .none), (MS.getD 2 .none), (MS.getD 3 .none), .blk [vi 4, vi 182, vi 0, .str false ⟨#[]⟩, vi 0, vi 0, vN, vF] 35]
def toFV : List (Nat × V) := [(6, vF), (7, vT), (10, vi 4), (11, vj 12), (12, .ptr 4 0), (13, vT), (14, vj 1932)]
noncomputable def toFS (g : Nat → Value) : Nd V := mkF 90 0 (slC 90 g toFV) .z
def fB_L (sa sb p : Int) (q : Value) (g : Nat → Value) : Obs := [(true, true), (true, true), (true, true), (false, false), (true, true), (true, true), (false, false), (true, true), (true, true), (false, false), (true, true), (true, true), (keq (Key.i p) (Key.i p), true), (keq (Key.i p) (Key.i p), true), (keq (Key.i p) (Key.i p), true), (keq (Key.i p) (Key.i p), true), (keq (Key.t p (oN 2) (oN 80)) (Key.t p (oN 2) (oN 80)), true), (true, true), (true, true), (keq (Key.p (oN 6) p) (Key.p (oN 6) p), true), (true, true), (true, true), (true, true), (true, true), (true, true), (true, true), (true, true), (true, true), (true, true), (true, true), (true, true), (true, true), (true, true), (true, true), (true, true), (true, true), (true, true), (true, true), (true, true), (true, true), (true, true), (true, true), (true, true)]
def fB_p (sa sb p : Int) (q : Value) (g : Nat → Value) : List (Pl Nat) := [(MS.getD 0 .none),
  (MS.getD 1 .none),
  (MS.getD 2 .none),
  (MS.getD 3 .none),
  .blk [vi 4, vi 182, vi 0, .str false ⟨#[]⟩, vi 0, vi 0, vN, vF] 35]
theorem fB_run (sa sb p : Int) (q : Value) (g : Nat → Value) : runF (fun _ => none) ((evF Tryz.prog kofY tblQ 400).code 90 false tmL (toS (1931) (12) g) [] kEnd) [true, true, true, true, true, true, true, true, true, true, true, true, true, true, true, true, true, true, true, true, true, true, true, true, true, true, true, true, true, true, true, false, true, true, false, true, true, false, true] (toB (1934) (1695) (240) (12) (8) sa sb p q).length (trM 0 (toB (1934) (1695) (240) (12) (8) sa sb p q) .z) [] 0 0 (endC 90 [6, 7, 10, 11, 12, 13, 14] [0, 1, 2, 3, 45]) = some (fB_L sa sb p q g, .normal, [vF, vT, vi 4, vj 12, .ptr 45 0, vT, vj 1932], fB_p sa sb p q g) := by kernel_rfl
def xF_L (g : Nat → Value) : Obs := [(true, true), (true, true), (true, true)]
def xF_p (g : Nat → Value) : List (Pl Nat) := [(MS.getD 0 .none),
  (MS.getD 1 .none),
  (MS.getD 2 .none),
  (MS.getD 3 .none),
  .blk [vi 4, vi 182, vi 0, .str false ⟨#[]⟩, vi 0, vi 0, vN, vF] 35]
theorem xF_run (g : Nat → Value) : runF (fun _ => none) ((evF Tryz.prog kofX tblQ 400).code 90 false tmL (toFS g) [] kEnd) [true, true, true] (toF).length (trM 0 (toF) .z) [] 0 0 (endC 90 [6, 7, 10, 11, 12, 13, 14] [0, 1, 2, 3, 4]) = some (xF_L g, (.exit 0), [vF, vT, vi 4, vj 12, .ptr 4 0, vT, vj 1932], xF_p g) := by kernel_rfl
def zF_L (g : Nat → Value) : Obs := [(true, true), (true, true), (true, true)]
def zF_p (g : Nat → Value) : List (Pl Nat) := [(MS.getD 0 .none),
  (MS.getD 1 .none),
  (MS.getD 2 .none),
  (MS.getD 3 .none)]
theorem zF_run (g : Nat → Value) : runF (fun _ => none) ((evF Tryz.prog kofX tblQ 400).code 90 false tmZ (toFS g) [] kEnd) [true, true, true] (toF).length (trM 0 (toF) .z) [] 0 0 (endC 90 [6] [0, 1, 2, 3]) = some (zF_L g, .ret, [.bool true true], zF_p g) := by kernel_rfl
def toIV : List (Nat × V) := [(6, vF), (7, vT), (8, .ptr 10 0), (10, vi 4), (11, vj 0), (12, .ptr 45 0), (13, vF)]
noncomputable def toIS (g : Nat → Value) : Nd V := mkF 90 0 (slC 90 g toIV) .z
def iA_L (sa sb p : Int) (q : Value) (g : Nat → Value) : Obs := []
def iA_p (sa sb p : Int) (q : Value) (g : Nat → Value) : List (Pl Nat) := [(MS.getD 0 .none),
  (MS.getD 1 .none),
  (MS.getD 2 .none),
  .none,
  .blk [vj sa, vi 1, .nm 16, .nm 17, .nm 19, .nm 20, .nm 22] 170,
  .map 0 [(.i 1, .ptr 11 0)],
  .blk [vj sa, .ptr 4 0, .nm 5, vi 1, vi 1, vi 4, .sl 44 9 0 1, vN, vN] 88,
  .blk [vj sb, vi 0, .nm 13, .nm 14, .nm 36, .nm 37, .nm 39] 170,
  .map 0 [(.i 1, .ptr 12 0), (.i 2, .ptr 40 0)],
  .blk [vj sb, .ptr 7 0, .nm 8, vi 2, vi 1, vi 4, vN, vN, vN] 88,
  .blk [.ptr 6 0, .ptr 9 0, .lit q, vj 3, .sl 43 8 0 3, .sl 42 8 0 4] 49,
  .blk [.ptr 26 0, vi 1, vi 6, vT, vi 0, vi 0, vi 0, vi 1, vj p, vi 2, vi 80, vN, vi 4, vi 0] 74,
  .blk [.lit (.pointer none), vi 1, vi 6, vT, vi 0, vi 3, vi 500, vi 0, vi 80, vi 0, vi 0, vN, vi 0, vi 0] 74,
  .map 1 [(.p 6 80, vi 1)],
  .map 0 [(.i 1, .sl 15 2 0 1)],
  .row 220 2 [[vi 6, vi 80]],
  .map 1 [(.p 6 p, vi 1)],
  .map 0 [(.i 1, .sl 18 2 0 1)],
  .row 220 2 [[vi 6, vj p]],
  .map 2 [(.t p 2 80, vi 1)],
  .map 0 [(.i 1, .sl 21 3 0 1)],
  .row 224 3 [[vj p, vi 2, vi 80]],
  .map 0 [(.i p, vi 1)],
  .none,
  ringZ,
  .blk [.sl 24 1 0 2048, vi 0, vi 0, vN, vi 0] 263,
  .blk [.ptr 27 0, .ptr 28 0, .ptr 41 0, .str false ⟨#[108, 111, 115, 116]⟩, vi 1, vi 2049, vi 2048, vi 500, vT, vF, vi 0, .ptr 25 0, .sq 29 1048576, vi 2048, vi 2048, vF, vi 0, vF, vi 0, vF, vi 0, vi 0, vj p, vi 80, .sq 23 1048576, vi 500, vi 2048, vi 2048, vi 3, vi 0, vT, vj 3, vj 4, vj 0, vF, vi 0, vi 0] 119,
  .blk [vi 1, vi 5, vi 0, vN, vN] 298,
  .blk [vT, vi 8, vi 2, vT, vi 5, vi 3, vj 0] 280,
  .none,
  ringZ,
  .blk [.sl 30 1 0 2048, vi 0, vi 0, vN, vi 0] 263,
  .blk [.ptr 33 0, .ptr 34 0, .ptr 35 0, .str false ⟨#[]⟩, vi 1, vi 2049, vi 2048, vi 500, vT, vF, vi 0, .ptr 31 0, .sq 23 1048576, vi 2048, vi 2048, vF, vi 0, vF, vi 0, vF, vi 0, vi 0, vi 80, vj p, .sq 29 1048576, vi 500, vi 2048, vi 2048, vi 3, vi 0, vF, vi 0, vi 0, vi 0, vF, vi 0, vi 0] 119,
  .blk [vi 1, vi 1, vi 0, vN, vN] 298,
  .blk [vT, vi 8, vi 2, vF, vi 1, vi 0, vi 0] 280,
  .blk [vi 500, vi 1000, vi 65535, vF, vi 0, .fn (.func 306) [] [], .fn (.func 307) [] []] 339,
  .map 2 [(.t 80 1 p, vi 2)],
  .map 0 [(.i 2, .sl 38 3 0 1)],
  .row 224 3 [[vi 80, vi 1, vj p]],
  .map 0 [(.i 80, vi 1)],
  .blk [.ptr 32 0, vi 2, vi 6, vT, vi 0, vi 0, vi 0, vi 2, vi 80, vi 1, vj p, vN, vi 0, vi 0] 74,
  .blk [vi 500, vi 1000, vi 65535, vF, vi 0, .fn (.func 306) [] [], .fn (.func 307) [] []] 339,
  .row 35 8 [[vi 1, vi 0, vi 1, .str false ⟨#[]⟩, vi 0, vi 0, vN, vF], [vi 2, vi 0, vi 80, .str false ⟨#[]⟩, vi 0, vi 0, vN, vF], [vi 3, vi 0, vi 0, .str false ⟨#[]⟩, vi 0, vi 0, vN, vF], [vi 4, vi 0, vi 2, .str false ⟨#[]⟩, vi 1, vj p, vN, vF]],
  .row 35 8 [[vi 1, vi 0, vi 1, .str false ⟨#[]⟩, vi 0, vi 0, vN, vF], [vi 2, vi 0, vi 0, .str false ⟨#[]⟩, vi 0, vi 0, vN, vF], [vi 3, vi 0, vi 4, .str false ⟨#[]⟩, vi 0, vi 0, vN, vF]],
  .row 104 9 [[vi 7, vi 1, vi 0, vi 0, vi 9, .str false ⟨#[]⟩, vi 1, vi 500, vi 4]],
  .blk [vi 0, vi 0, vi 0, .str false ⟨#[]⟩, vi 0, vi 0, vN, vF] 35]
theorem iA_run (sa sb p : Int) (q : Value) (g : Nat → Value) : runF (fun _ => none) ((evF Tryz.prog kofX tblQ 400).code 90 false tmI (toIS g) [] kEnd) [] (toA 3 3 4 0 0 sa sb p q).length (trM 0 (toA 3 3 4 0 0 sa sb p q) .z) [] 0 0 (endC 90 [6, 7, 8, 10, 11, 12, 13, 14] [0, 1, 2, 3, 4, 5, 6, 7, 8, 9, 10, 11, 12, 13, 14, 15, 16, 17, 18, 19, 20, 21, 22, 23, 24, 25, 26, 27, 28, 29, 30, 31, 32, 33, 34, 35, 36, 37, 38, 39, 40, 41, 42, 43, 44, 45]) = some (iA_L sa sb p q g, .normal, [vF, vT, .ptr 10 0, vi 4, vj 0, .ptr 45 0, vF, vi 0], iA_p sa sb p q g) := by kernel_rfl
end Go.Proofs.YtockaipodnapjaaGreatDoor

namespace Go.Proofs.YtockaipodnapjaaGreatDoor
open Go Go.RowKit
set_option linter.unusedVariables false
set_option maxRecDepth 100000
def pA_L (p : Int) : Obs := [(!ilt p (oN 1) && !ilt (oN 65535) p && true && true && true, true), (true, true)]
def pA_p (sa sb p : Int) : List (Pl Nat) := [(MS.getD 0 .none),
  (MS.getD 1 .none),
  (MS.getD 2 .none),
  .none,
  .blk [vj sa, vi 1, .nm 16, .nm 17, .nm 19, .nm 20, .nm 22] 170,
  .map 0 [(.i 1, .ptr 11 0)],
  .blk [vj sa, .ptr 4 0, .nm 5, vi 1, vi 1, vi 4, .sl 229 9 0 1, vN, vN] 88,
  .blk [vj sb, vi 0, .nm 13, .nm 14, .nm 36, .nm 37, .nm 39] 170,
  .map 0 [(.i 1, .ptr 12 0), (.i 2, .ptr 40 0)],
  .blk [vj sb, .ptr 7 0, .nm 8, vi 2, vi 1, vi 4, vN, vN, vN] 88,
  .blk [.ptr 6 0, .ptr 9 0, .sl 201 9 0 1, vi 3, .sl 202 8 0 3, .sl 44 8 0 4] 49,
  .blk [.ptr 26 0, vi 1, vi 6, vT, vi 0, vi 0, vi 0, vi 1, vj p, vi 2, vi 80, vN, vi 4, vi 0] 74,
  .blk [.lit (.pointer none), vi 1, vi 6, vT, vi 0, vi 3, vi 500, vi 0, vi 80, vi 0, vi 0, vN, vi 0, vi 0] 74,
  .map 1 [(.p 6 80, vi 1)],
  .map 0 [(.i 1, .sl 15 2 0 1)],
  .row 220 2 [[vi 6, vi 80]],
  .map 1 [(.p 6 p, vi 1)],
  .map 0 [(.i 1, .sl 18 2 0 1)],
  .row 220 2 [[vi 6, vj p]],
  .map 2 [(.t p 2 80, vi 1)],
  .map 0 [(.i 1, .sl 21 3 0 1)],
  .row 224 3 [[vj p, vi 2, vi 80]],
  .map 0 [(.i p, vi 1)],
  .none,
  ringZ,
  .blk [.sl 24 1 0 2048, vi 0, vi 0, vN, vi 0] 263,
  .blk [.ptr 27 0, .ptr 28 0, .ptr 41 0, .str false ⟨#[108, 111, 115, 116]⟩, vi 1, vi 2049, vi 2048, vi 500, vT, vF, vi 0, .ptr 25 0, .sq 29 1048576, vi 2048, vi 2048, vF, vi 0, vF, vi 0, vF, vi 0, vi 0, vj p, vi 80, .sq 23 1048576, vi 500, vi 2048, vi 2048, vi 3, vi 0, vT, vi 3, vi 4, vi 0, vF, vi 0, vi 0] 119,
  .blk [vi 1, vi 5, vi 0, vN, vN] 298,
  .blk [vT, vi 8, vi 2, vT, vi 5, vi 3, vi 0] 280,
  .none,
  ringZ,
  .blk [.sl 30 1 0 2048, vi 0, vi 0, vN, vi 0] 263,
  .blk [.ptr 33 0, .ptr 34 0, .ptr 35 0, .str false ⟨#[]⟩, vi 1, vi 2049, vi 2048, vi 500, vT, vF, vi 0, .ptr 31 0, .sq 23 1048576, vi 2048, vi 2048, vF, vi 0, vF, vi 0, vF, vi 0, vi 0, vi 80, vj p, .sq 29 1048576, vi 500, vi 2048, vi 2048, vi 3, vi 0, vF, vi 0, vi 0, vi 0, vF, vi 0, vi 0] 119,
  .blk [vi 1, vi 1, vi 0, vN, vN] 298,
  .blk [vT, vi 8, vi 2, vF, vi 1, vi 0, vi 0] 280,
  .blk [vi 500, vi 1000, vi 65535, vF, vi 0, .fn (.func 306) [] [], .fn (.func 307) [] []] 339,
  .map 2 [(.t 80 1 p, vi 2)],
  .map 0 [(.i 2, .sl 38 3 0 1)],
  .row 224 3 [[vi 80, vi 1, vj p]],
  .map 0 [(.i 80, vi 1)],
  .blk [.ptr 32 0, vi 2, vi 6, vT, vi 0, vi 0, vi 0, vi 2, vi 80, vi 1, vj p, vN, vi 0, vi 0] 74,
  .blk [vi 500, vi 1000, vi 65535, vF, vi 0, .fn (.func 306) [] [], .fn (.func 307) [] []] 339,
  .row 35 8 [[vi 1, vi 0, vi 1, .str false ⟨#[]⟩, vi 0, vi 0, vN, vF], [vi 2, vi 0, vi 80, .str false ⟨#[]⟩, vi 0, vi 0, vN, vF], [vi 3, vi 0, vi 0, .str false ⟨#[]⟩, vi 0, vi 0, vN, vF], [vi 4, vi 0, vi 2, .str false ⟨#[]⟩, vi 1, vj p, vN, vF]],
  .row 35 8 [[vi 1, vi 0, vi 1, .str false ⟨#[]⟩, vi 0, vi 0, vN, vF], [vi 2, vi 0, vi 0, .str false ⟨#[]⟩, vi 0, vi 0, vN, vF], [vi 3, vi 0, vi 4, .str false ⟨#[]⟩, vi 0, vi 0, vN, vF]],
  .row 104 9 [[vi 7, vi 1, vi 0, vi 0, vi 9, .str false ⟨#[]⟩, vi 1, vi 500, vi 4]],
  .blk [vi 0, vi 0, vi 0, .str false ⟨#[]⟩, vi 0, vi 0, vN, vF] 35]
theorem pA_run (a b sa sb p : Int) : runF (fun _ => none) ((evF Tryz.prog kofX (tblT a b sa sb p) 400).code 90 false (chainC tmP .skip) (mkF 90 0 [vj a, vj b, vT] .z) [] kEnd) [] MS.length (trM 0 MS .z) [] 0 0 (endC 90 [6, 7, 8, 10, 11, 12, 13] [0, 1, 2, 3, 4, 5, 6, 7, 8, 9, 10, 11, 12, 13, 14, 15, 16, 17, 18, 19, 20, 21, 22, 23, 24, 25, 26, 27, 28, 29, 30, 31, 32, 33, 34, 35, 36, 37, 38, 39, 40, 41, 44, 202, 229, 239]) = some (pA_L p ++ cnE a b, .normal, [vF, vT, .ptr 10 0, vi 4, vi 0, .ptr 239 0, vF], pA_p sa sb p) := by kernel_rfl
end Go.Proofs.YtockaipodnapjaaGreatDoor

namespace Go.Proofs.YtockaipodnapjaaGreatDoor
open Go Go.RowKit
set_option linter.unusedVariables false
set_option maxRecDepth 100000
theorem toA_lt (n S V c b sa sb p : Int) (q : Value) : ∀ x ∈ toA n S V c b sa sb p q, x.ltB 46 = true := List.all_eq_true.1 (by kernel_rfl)
theorem toB_lt (n S V c b sa sb p : Int) (q : Value) : ∀ x ∈ toB n S V c b sa sb p q, x.ltB 47 = true := List.all_eq_true.1 (by kernel_rfl)
theorem toF_lt : ∀ x ∈ toF, x.ltB 5 = true := List.all_eq_true.1 (by kernel_rfl)
theorem toVA (i c : Int) : ((toV i c).all fun e => Nat.blt e.1 90 && e.2.ltB 46) = true := by kernel_rfl
theorem toVB (i c : Int) : ((toV i c).all fun e => Nat.blt e.1 90 && e.2.ltB 47) = true := by kernel_rfl
theorem toFVB : (toFV.all fun e => Nat.blt e.1 90 && e.2.ltB 5) = true := by kernel_rfl
theorem add0 (c : Int) : Int.add c 0 = c := Int.add_zero c
theorem p_n4t (p : Int) : (ieq p p) = true := ieq_t rfl
theorem qA_obs {n i S V c b sa sb p : Int} {q : Value} {g : Nat → Value} (h0 : 0 ≤ n) (h1 : S ≤ n + 1) (h2 : n + 1 < S + V) (h3 : n + 1 < 4000) (hS : 0 ≤ S) (hV : V < 1000) (hi : i < 3200) (hi0 : 0 ≤ i) (hc : 0 ≤ c) (hc2 : c < 1000) : okObs (qA_L n i S V c b sa sb p q g) := by
  have a1 : inR (n.add (oN 1)) = true := inR_t (by show _ ≤ n + 1; omega) (by show n + 1 ≤ _; omega)
  have a2 : inR (i.add (oN 1)) = true := inR_t (by show _ ≤ i + 1; omega) (by show i + 1 ≤ _; omega)
  have a3 : inR (c.add (oN 0)) = true := inR_t (by show _ ≤ c + 0; omega) (by show c + 0 ≤ _; omega)
  have a4 : (!ilt (n.add (oN 1)) S) = true := not_ilt h1
  have a5 : ilt i (oN 3200) = true := ilt_t hi
  have a6 : (!ilt (IntKind.u64.wrap (IntKind.u64.wrap (n.add (oN 1)) - IntKind.u64.wrap S)) (IntKind.u64.wrap V)) = false := by
    rw [wrap_u64, wrap_u64, wrap_u64, wrap_u64, show n.add (oN 1) = n + 1 from rfl]
    exact nnot_f (by omega)
  unfold qA_L
  repeat' first | exact okO_nil | refine okO_cons ?_ ?_
  all_goals first | rfl | exact a1 | exact a2 | exact a3 | exact a4 | exact a5 | exact a6
theorem qB_obs {n i S V c b sa sb p : Int} {q : Value} {g : Nat → Value} (h0 : 0 ≤ n) (h1 : S ≤ n + 1) (h2 : n + 1 < S + V) (h3 : n + 1 < 4000) (hS : 0 ≤ S) (hV : V < 1000) (hi : i < 3200) (hi0 : 0 ≤ i) (hc : 0 ≤ c) (hc2 : c < 1000) : okObs (qB_L n i S V c b sa sb p q g) := by
  have a1 : inR (n.add (oN 1)) = true := inR_t (by show _ ≤ n + 1; omega) (by show n + 1 ≤ _; omega)
  have a2 : inR (i.add (oN 1)) = true := inR_t (by show _ ≤ i + 1; omega) (by show i + 1 ≤ _; omega)
  have a3 : inR (c.add (oN 0)) = true := inR_t (by show _ ≤ c + 0; omega) (by show c + 0 ≤ _; omega)
  have a4 : (!ilt (n.add (oN 1)) S) = true := not_ilt h1
  have a5 : ilt i (oN 3200) = true := ilt_t hi
  have a6 : (!ilt (IntKind.u64.wrap (IntKind.u64.wrap (n.add (oN 1)) - IntKind.u64.wrap S)) (IntKind.u64.wrap V)) = false := by
    rw [wrap_u64, wrap_u64, wrap_u64, wrap_u64, show n.add (oN 1) = n + 1 from rfl]
    exact nnot_f (by omega)
  unfold qB_L
  repeat' first | exact okO_nil | refine okO_cons ?_ ?_
  all_goals first | rfl | exact a1 | exact a2 | exact a3 | exact a4 | exact a5 | exact a6
theorem qA_hp (n i S V c b sa sb p : Int) (q : Value) (g : Nat → Value) : ∀ q' : Value, (qA_p n i S V c b sa sb p q g).map Pl.fl = ((toA (Int.add n 1) S V c b sa sb p q').map fun x => (x.ren fun j => ([0, 1, 2, 3, 4, 5, 6, 7, 8, 9, 10, 11, 12, 13, 14, 15, 16, 17, 18, 19, 20, 21, 22, 23, 24, 25, 26, 27, 28, 29, 30, 31, 32, 33, 34, 35, 36, 37, 38, 39, 40, 41, 42, 43, 154, 45] : List Nat).getD j 0).fl).set 10 (.blk [.ptr 6 0, .ptr 9 0, vN, vj (Int.add n 1), .sl 43 8 0 3, .sl 42 8 0 4] 49 : Pl Nat).fl := by
  intro q'
  simp only [qA_p, toA, List.map_cons, List.map_nil, ringZ_fl, ringZ_ren]
  kernel_rfl
theorem qA_step (n i S V c b sa sb p : Int) (q : Value) (g : Nat → Value) (h0 : 0 ≤ n) (h1 : S ≤ n + 1) (h2 : n + 1 < S + V) (h3 : n + 1 < 4000) (hS : 0 ≤ S) (hV : V < 1000) (hi : i < 3200) (hi0 : 0 ≤ i) (hc : 0 ≤ c) (hc2 : c < 1000) {w0 w : World} {D : Nat → Prop} {ρ : En} (hA : At arS w0 D w ρ (toA n S V c b sa sb p q)) {Q : Exit → Act → World → Prop} (hQ : ∀ (ρ' : En) (w' : World) (g : Nat → Value) (q : Value), (∀ j, j < 4 → ρ' j = ρ j) → At arS w0 D w' ρ' (toA (Int.add n 1) S V c b sa sb p q) → Q .normal (actN ρ' 90 (toS (Int.add i 1) c g) []) w') : tmL.wpIn (Fe none) 0 Tryz.prog Q (actN ρ 90 (toS i c g) []) w :=
  piece (e := 10) (p1 := .blk [.ptr 6 0, .ptr 9 0, vN, vj (Int.add n 1), .sl 43 8 0 3, .sl 42 8 0 4] 49) (Qv := vN) (Mc := fun q : Value => toA (Int.add n 1) S V c b sa sb p q) (lv := toV (Int.add i 1) c) (k0 := 46) (k := 46) entrX tblQ_ok (qA_run n i S V c b sa sb p q g) (qA_obs h0 h1 h2 h3 hS hV hi hi0 hc hc2) ⟨rfl, toA_lt _ _ _ _ _ _ _ _ _⟩ (by decide) (lvS (toVA i c)) (ndB_ok (by kernel_rfl)) (fun j hj => by match j, hj with | 0, _ | 1, _ | 2, _ | 3, _ => rfl) (show 4 ≤ 46 by decide) (qA_hp n i S V c b sa sb p q g) (fun ρ => by kernel_rfl) (fun q => ⟨rfl, toA_lt _ _ _ _ _ _ _ _ _⟩) rfl (by first | rfl | (rw [add0]; rfl)) (lvB (toVA _ _)) hA hQ
theorem qB_hp (n i S V c b sa sb p : Int) (q : Value) (g : Nat → Value) : ∀ q' : Value, (qB_p n i S V c b sa sb p q g).map Pl.fl = ((toB (Int.add n 1) S V c b sa sb p q').map fun x => (x.ren fun j => ([0, 1, 2, 3, 4, 5, 6, 7, 8, 9, 10, 11, 12, 13, 14, 15, 16, 17, 18, 19, 20, 21, 22, 23, 24, 25, 26, 27, 28, 29, 30, 31, 32, 33, 34, 35, 36, 37, 38, 39, 40, 41, 42, 43, 163, 45, 46] : List Nat).getD j 0).fl).set 10 (.blk [.ptr 6 0, .ptr 9 0, vN, vj (Int.add n 1), .sl 43 8 0 3, .sl 42 8 0 4] 49 : Pl Nat).fl := by
  intro q'
  simp only [qB_p, toB, toA, List.map_cons, List.map_nil, ringZ_fl, ringZ_ren]
  kernel_rfl
theorem qB_step (n i S V c b sa sb p : Int) (q : Value) (g : Nat → Value) (h0 : 0 ≤ n) (h1 : S ≤ n + 1) (h2 : n + 1 < S + V) (h3 : n + 1 < 4000) (hS : 0 ≤ S) (hV : V < 1000) (hi : i < 3200) (hi0 : 0 ≤ i) (hc : 0 ≤ c) (hc2 : c < 1000) {w0 w : World} {D : Nat → Prop} {ρ : En} (hA : At arS w0 D w ρ (toB n S V c b sa sb p q)) {Q : Exit → Act → World → Prop} (hQ : ∀ (ρ' : En) (w' : World) (g : Nat → Value) (q : Value), (∀ j, j < 4 → ρ' j = ρ j) → At arS w0 D w' ρ' (toB (Int.add n 1) S V c b sa sb p q) → Q .normal (actN ρ' 90 (toS (Int.add i 1) c g) []) w') : tmL.wpIn (Fe none) 0 Tryz.prog Q (actN ρ 90 (toS i c g) []) w :=
  piece (e := 10) (p1 := .blk [.ptr 6 0, .ptr 9 0, vN, vj (Int.add n 1), .sl 43 8 0 3, .sl 42 8 0 4] 49) (Qv := vN) (Mc := fun q : Value => toB (Int.add n 1) S V c b sa sb p q) (lv := toV (Int.add i 1) c) (k0 := 47) (k := 47) entrX tblQ_ok (qB_run n i S V c b sa sb p q g) (qB_obs h0 h1 h2 h3 hS hV hi hi0 hc hc2) ⟨rfl, toB_lt _ _ _ _ _ _ _ _ _⟩ (by decide) (lvS (toVB i c)) (ndB_ok (by kernel_rfl)) (fun j hj => by match j, hj with | 0, _ | 1, _ | 2, _ | 3, _ => rfl) (show 4 ≤ 47 by decide) (qB_hp n i S V c b sa sb p q g) (fun ρ => by kernel_rfl) (fun q => ⟨rfl, toB_lt _ _ _ _ _ _ _ _ _⟩) rfl (by first | rfl | (rw [add0]; rfl)) (lvB (toVB _ _)) hA hQ
theorem s0_obs {sa sb p : Int} {q : Value} {g : Nat → Value} (p1 : 49152 ≤ p) (p2 : p ≤ 49215) : okObs (s0_L sa sb p q g) := by
  unfold s0_L
  (repeat' first | exact okO_nil | refine okO_cons ?_ ?_) <;> first | rfl | exact p_n1 p1 | exact p_n2 p2 | exact p_n3 p2 | exact p_n4 | exact ieq_t rfl | exact keq_refl _ | (simp only [p_n1 p1, p_n2 p2, Bool.and_true, Bool.true_and])
theorem s0_hp (sa sb p : Int) (q : Value) (g : Nat → Value) : ∀ q' : Value, (s0_p sa sb p q g).map Pl.fl = ((toB (7) (7) (8) (1) (1) sa sb p q').map fun x => (x.ren fun j => ([0, 1, 2, 3, 4, 5, 6, 7, 8, 9, 10, 11, 12, 13, 14, 15, 16, 17, 18, 19, 20, 21, 22, 23, 24, 25, 26, 27, 28, 29, 30, 31, 32, 33, 34, 35, 36, 37, 38, 39, 40, 41, 42, 43, 290, 45, 177] : List Nat).getD j 0).fl).set 10 (.blk [.ptr 6 0, .ptr 9 0, .sl 392 9 0 1, vj (7), .sl 43 8 0 3, .sl 42 8 0 4] 49 : Pl Nat).fl := by
  intro q'
  simp only [s0_p, toB, toA, List.map_cons, List.map_nil, ringZ_fl, ringZ_ren]
  kernel_rfl
theorem s0_step (sa sb p : Int) (q : Value) (g : Nat → Value) (p1 : 49152 ≤ p) (p2 : p ≤ 49215) {w0 w : World} {D : Nat → Prop} {ρ : En} (hA : At arS w0 D w ρ (toA (6) (3) (4) (0) (0) sa sb p q)) {Q : Exit → Act → World → Prop} (hQ : ∀ (ρ' : En) (w' : World) (g : Nat → Value) (q : Value), (∀ j, j < 4 → ρ' j = ρ j) → At arS w0 D w' ρ' (toB (7) (7) (8) (1) (1) sa sb p q) → Q .normal (actN ρ' 90 (toS 4 1 g) []) w') : tmL.wpIn (Fe none) 0 Tryz.prog Q (actN ρ 90 (toS (3) (0) g) []) w :=
  piece (e := 10) (p1 := .blk [.ptr 6 0, .ptr 9 0, .sl 392 9 0 1, vj (7), .sl 43 8 0 3, .sl 42 8 0 4] 49) (Qv := .sl 392 9 0 1) (Mc := fun q : Value => toB (7) (7) (8) (1) (1) sa sb p q) (lv := toV 4 1) (k0 := 46) (k := 47) entrX tblQ_ok (s0_run sa sb p q g) (s0_obs p1 p2) ⟨rfl, toA_lt _ _ _ _ _ _ _ _ _⟩ (by decide) (lvS (toVA (3) (0))) (ndB_ok (by kernel_rfl)) (fun j hj => by match j, hj with | 0, _ | 1, _ | 2, _ | 3, _ => rfl) (show 4 ≤ 46 by decide) (s0_hp sa sb p q g) (fun ρ => by kernel_rfl) (fun q => ⟨rfl, toB_lt _ _ _ _ _ _ _ _ _⟩) rfl (by first | rfl | (rw [add0]; rfl)) (lvB (toVB _ _)) hA hQ
theorem sX_obs {sa sb p : Int} {q : Value} {g : Nat → Value} (p1 : 49152 ≤ p) (p2 : p ≤ 49215) : okObs (sX_L sa sb p q g) := by
  unfold sX_L
  (repeat' first | exact okO_nil | refine okO_cons ?_ ?_) <;> first | rfl | exact p_n1 p1 | exact p_n2 p2 | exact p_n3 p2 | exact p_n4 | exact ieq_t rfl | exact keq_refl _ | (simp only [p_n1 p1, p_n2 p2, Bool.and_true, Bool.true_and])
theorem sX_hp (n S V c b sa sb p : Int) : ∀ q' : Value, (sX_p n S V c b sa sb p).map Pl.fl = ((toB n S V c b sa sb p q').map fun x => (x.ren fun j => ([0, 1, 2, 3, 4, 5, 6, 7, 8, 9, 10, 11, 12, 13, 14, 15, 16, 17, 18, 19, 20, 21, 22, 23, 24, 25, 26, 27, 28, 29, 30, 31, 32, 33, 34, 35, 36, 37, 38, 39, 40, 41, 42, 43, 291, 45, 178] : List Nat).getD j 0).fl).set 10 (.blk [.ptr 6 0, .ptr 9 0, .sl 393 9 0 1, vj (n), .sl 43 8 0 3, .sl 42 8 0 4] 49 : Pl Nat).fl := by
  intro q'
  simp only [sX_p, toB, List.map_cons, List.map_nil, ringZ_fl, ringZ_ren]
  kernel_rfl
theorem s1_step (sa sb p : Int) (q : Value) (g : Nat → Value) (p1 : 49152 ≤ p) (p2 : p ≤ 49215) {w0 w : World} {D : Nat → Prop} {ρ : En} (hA : At arS w0 D w ρ (toB (14) (7) (8) (1) (1) sa sb p q)) {Q : Exit → Act → World → Prop} (hQ : ∀ (ρ' : En) (w' : World) (g : Nat → Value) (q : Value), (∀ j, j < 4 → ρ' j = ρ j) → At arS w0 D w' ρ' (toB (15) (15) (16) (2) (2) sa sb p q) → Q .normal (actN ρ' 90 (toS 12 2 g) []) w') : tmL.wpIn (Fe none) 0 Tryz.prog Q (actN ρ 90 (toS (11) (1) g) []) w :=
  piece (e := 10) (p1 := .blk [.ptr 6 0, .ptr 9 0, .sl 393 9 0 1, vj (15), .sl 43 8 0 3, .sl 42 8 0 4] 49) (Qv := .sl 393 9 0 1) (Mc := fun q : Value => toB (15) (15) (16) (2) (2) sa sb p q) (lv := toV 12 2) (k0 := 47) (k := 47) entrX tblQ_ok (s1_run sa sb p q g) (sX_obs p1 p2) ⟨rfl, toB_lt _ _ _ _ _ _ _ _ _⟩ (by decide) (lvS (toVB (11) (1))) (ndB_ok (by kernel_rfl)) (fun j hj => by match j, hj with | 0, _ | 1, _ | 2, _ | 3, _ => rfl) (show 4 ≤ 47 by decide) (sX_hp _ _ _ _ _ _ _ _) (fun ρ => by kernel_rfl) (fun q => ⟨rfl, toB_lt _ _ _ _ _ _ _ _ _⟩) rfl (by first | rfl | (rw [add0]; rfl)) (lvB (toVB _ _)) hA hQ
theorem s2_step (sa sb p : Int) (q : Value) (g : Nat → Value) (p1 : 49152 ≤ p) (p2 : p ≤ 49215) {w0 w : World} {D : Nat → Prop} {ρ : En} (hA : At arS w0 D w ρ (toB (30) (15) (16) (2) (2) sa sb p q)) {Q : Exit → Act → World → Prop} (hQ : ∀ (ρ' : En) (w' : World) (g : Nat → Value) (q : Value), (∀ j, j < 4 → ρ' j = ρ j) → At arS w0 D w' ρ' (toB (31) (31) (32) (3) (3) sa sb p q) → Q .normal (actN ρ' 90 (toS 28 3 g) []) w') : tmL.wpIn (Fe none) 0 Tryz.prog Q (actN ρ 90 (toS (27) (2) g) []) w :=
  piece (e := 10) (p1 := .blk [.ptr 6 0, .ptr 9 0, .sl 393 9 0 1, vj (31), .sl 43 8 0 3, .sl 42 8 0 4] 49) (Qv := .sl 393 9 0 1) (Mc := fun q : Value => toB (31) (31) (32) (3) (3) sa sb p q) (lv := toV 28 3) (k0 := 47) (k := 47) entrX tblQ_ok (s2_run sa sb p q g) (sX_obs p1 p2) ⟨rfl, toB_lt _ _ _ _ _ _ _ _ _⟩ (by decide) (lvS (toVB (27) (2))) (ndB_ok (by kernel_rfl)) (fun j hj => by match j, hj with | 0, _ | 1, _ | 2, _ | 3, _ => rfl) (show 4 ≤ 47 by decide) (sX_hp _ _ _ _ _ _ _ _) (fun ρ => by kernel_rfl) (fun q => ⟨rfl, toB_lt _ _ _ _ _ _ _ _ _⟩) rfl (by first | rfl | (rw [add0]; rfl)) (lvB (toVB _ _)) hA hQ
theorem s3_step (sa sb p : Int) (q : Value) (g : Nat → Value) (p1 : 49152 ≤ p) (p2 : p ≤ 49215) {w0 w : World} {D : Nat → Prop} {ρ : En} (hA : At arS w0 D w ρ (toB (62) (31) (32) (3) (3) sa sb p q)) {Q : Exit → Act → World → Prop} (hQ : ∀ (ρ' : En) (w' : World) (g : Nat → Value) (q : Value), (∀ j, j < 4 → ρ' j = ρ j) → At arS w0 D w' ρ' (toB (63) (63) (64) (4) (4) sa sb p q) → Q .normal (actN ρ' 90 (toS 60 4 g) []) w') : tmL.wpIn (Fe none) 0 Tryz.prog Q (actN ρ 90 (toS (59) (3) g) []) w :=
  piece (e := 10) (p1 := .blk [.ptr 6 0, .ptr 9 0, .sl 393 9 0 1, vj (63), .sl 43 8 0 3, .sl 42 8 0 4] 49) (Qv := .sl 393 9 0 1) (Mc := fun q : Value => toB (63) (63) (64) (4) (4) sa sb p q) (lv := toV 60 4) (k0 := 47) (k := 47) entrX tblQ_ok (s3_run sa sb p q g) (sX_obs p1 p2) ⟨rfl, toB_lt _ _ _ _ _ _ _ _ _⟩ (by decide) (lvS (toVB (59) (3))) (ndB_ok (by kernel_rfl)) (fun j hj => by match j, hj with | 0, _ | 1, _ | 2, _ | 3, _ => rfl) (show 4 ≤ 47 by decide) (sX_hp _ _ _ _ _ _ _ _) (fun ρ => by kernel_rfl) (fun q => ⟨rfl, toB_lt _ _ _ _ _ _ _ _ _⟩) rfl (by first | rfl | (rw [add0]; rfl)) (lvB (toVB _ _)) hA hQ
theorem s4_step (sa sb p : Int) (q : Value) (g : Nat → Value) (p1 : 49152 ≤ p) (p2 : p ≤ 49215) {w0 w : World} {D : Nat → Prop} {ρ : En} (hA : At arS w0 D w ρ (toB (126) (63) (64) (4) (4) sa sb p q)) {Q : Exit → Act → World → Prop} (hQ : ∀ (ρ' : En) (w' : World) (g : Nat → Value) (q : Value), (∀ j, j < 4 → ρ' j = ρ j) → At arS w0 D w' ρ' (toB (127) (127) (128) (5) (5) sa sb p q) → Q .normal (actN ρ' 90 (toS 124 5 g) []) w') : tmL.wpIn (Fe none) 0 Tryz.prog Q (actN ρ 90 (toS (123) (4) g) []) w :=
  piece (e := 10) (p1 := .blk [.ptr 6 0, .ptr 9 0, .sl 393 9 0 1, vj (127), .sl 43 8 0 3, .sl 42 8 0 4] 49) (Qv := .sl 393 9 0 1) (Mc := fun q : Value => toB (127) (127) (128) (5) (5) sa sb p q) (lv := toV 124 5) (k0 := 47) (k := 47) entrX tblQ_ok (s4_run sa sb p q g) (sX_obs p1 p2) ⟨rfl, toB_lt _ _ _ _ _ _ _ _ _⟩ (by decide) (lvS (toVB (123) (4))) (ndB_ok (by kernel_rfl)) (fun j hj => by match j, hj with | 0, _ | 1, _ | 2, _ | 3, _ => rfl) (show 4 ≤ 47 by decide) (sX_hp _ _ _ _ _ _ _ _) (fun ρ => by kernel_rfl) (fun q => ⟨rfl, toB_lt _ _ _ _ _ _ _ _ _⟩) rfl (by first | rfl | (rw [add0]; rfl)) (lvB (toVB _ _)) hA hQ
theorem s5_step (sa sb p : Int) (q : Value) (g : Nat → Value) (p1 : 49152 ≤ p) (p2 : p ≤ 49215) {w0 w : World} {D : Nat → Prop} {ρ : En} (hA : At arS w0 D w ρ (toB (254) (127) (128) (5) (5) sa sb p q)) {Q : Exit → Act → World → Prop} (hQ : ∀ (ρ' : En) (w' : World) (g : Nat → Value) (q : Value), (∀ j, j < 4 → ρ' j = ρ j) → At arS w0 D w' ρ' (toB (255) (255) (240) (6) (6) sa sb p q) → Q .normal (actN ρ' 90 (toS 252 6 g) []) w') : tmL.wpIn (Fe none) 0 Tryz.prog Q (actN ρ 90 (toS (251) (5) g) []) w :=
  piece (e := 10) (p1 := .blk [.ptr 6 0, .ptr 9 0, .sl 393 9 0 1, vj (255), .sl 43 8 0 3, .sl 42 8 0 4] 49) (Qv := .sl 393 9 0 1) (Mc := fun q : Value => toB (255) (255) (240) (6) (6) sa sb p q) (lv := toV 252 6) (k0 := 47) (k := 47) entrX tblQ_ok (s5_run sa sb p q g) (sX_obs p1 p2) ⟨rfl, toB_lt _ _ _ _ _ _ _ _ _⟩ (by decide) (lvS (toVB (251) (5))) (ndB_ok (by kernel_rfl)) (fun j hj => by match j, hj with | 0, _ | 1, _ | 2, _ | 3, _ => rfl) (show 4 ≤ 47 by decide) (sX_hp _ _ _ _ _ _ _ _) (fun ρ => by kernel_rfl) (fun q => ⟨rfl, toB_lt _ _ _ _ _ _ _ _ _⟩) rfl (by first | rfl | (rw [add0]; rfl)) (lvB (toVB _ _)) hA hQ
theorem s6_step (sa sb p : Int) (q : Value) (g : Nat → Value) (p1 : 49152 ≤ p) (p2 : p ≤ 49215) {w0 w : World} {D : Nat → Prop} {ρ : En} (hA : At arS w0 D w ρ (toB (494) (255) (240) (6) (6) sa sb p q)) {Q : Exit → Act → World → Prop} (hQ : ∀ (ρ' : En) (w' : World) (g : Nat → Value) (q : Value), (∀ j, j < 4 → ρ' j = ρ j) → At arS w0 D w' ρ' (toB (495) (495) (240) (7) (7) sa sb p q) → Q .normal (actN ρ' 90 (toS 492 7 g) []) w') : tmL.wpIn (Fe none) 0 Tryz.prog Q (actN ρ 90 (toS (491) (6) g) []) w :=
  piece (e := 10) (p1 := .blk [.ptr 6 0, .ptr 9 0, .sl 393 9 0 1, vj (495), .sl 43 8 0 3, .sl 42 8 0 4] 49) (Qv := .sl 393 9 0 1) (Mc := fun q : Value => toB (495) (495) (240) (7) (7) sa sb p q) (lv := toV 492 7) (k0 := 47) (k := 47) entrX tblQ_ok (s6_run sa sb p q g) (sX_obs p1 p2) ⟨rfl, toB_lt _ _ _ _ _ _ _ _ _⟩ (by decide) (lvS (toVB (491) (6))) (ndB_ok (by kernel_rfl)) (fun j hj => by match j, hj with | 0, _ | 1, _ | 2, _ | 3, _ => rfl) (show 4 ≤ 47 by decide) (sX_hp _ _ _ _ _ _ _ _) (fun ρ => by kernel_rfl) (fun q => ⟨rfl, toB_lt _ _ _ _ _ _ _ _ _⟩) rfl (by first | rfl | (rw [add0]; rfl)) (lvB (toVB _ _)) hA hQ
theorem s7_step (sa sb p : Int) (q : Value) (g : Nat → Value) (p1 : 49152 ≤ p) (p2 : p ≤ 49215) {w0 w : World} {D : Nat → Prop} {ρ : En} (hA : At arS w0 D w ρ (toB (734) (495) (240) (7) (7) sa sb p q)) {Q : Exit → Act → World → Prop} (hQ : ∀ (ρ' : En) (w' : World) (g : Nat → Value) (q : Value), (∀ j, j < 4 → ρ' j = ρ j) → At arS w0 D w' ρ' (toB (735) (735) (240) (8) (8) sa sb p q) → Q .normal (actN ρ' 90 (toS 732 8 g) []) w') : tmL.wpIn (Fe none) 0 Tryz.prog Q (actN ρ 90 (toS (731) (7) g) []) w :=
  piece (e := 10) (p1 := .blk [.ptr 6 0, .ptr 9 0, .sl 393 9 0 1, vj (735), .sl 43 8 0 3, .sl 42 8 0 4] 49) (Qv := .sl 393 9 0 1) (Mc := fun q : Value => toB (735) (735) (240) (8) (8) sa sb p q) (lv := toV 732 8) (k0 := 47) (k := 47) entrX tblQ_ok (s7_run sa sb p q g) (sX_obs p1 p2) ⟨rfl, toB_lt _ _ _ _ _ _ _ _ _⟩ (by decide) (lvS (toVB (731) (7))) (ndB_ok (by kernel_rfl)) (fun j hj => by match j, hj with | 0, _ | 1, _ | 2, _ | 3, _ => rfl) (show 4 ≤ 47 by decide) (sX_hp _ _ _ _ _ _ _ _) (fun ρ => by kernel_rfl) (fun q => ⟨rfl, toB_lt _ _ _ _ _ _ _ _ _⟩) rfl (by first | rfl | (rw [add0]; rfl)) (lvB (toVB _ _)) hA hQ
theorem s8_step (sa sb p : Int) (q : Value) (g : Nat → Value) (p1 : 49152 ≤ p) (p2 : p ≤ 49215) {w0 w : World} {D : Nat → Prop} {ρ : En} (hA : At arS w0 D w ρ (toB (974) (735) (240) (8) (8) sa sb p q)) {Q : Exit → Act → World → Prop} (hQ : ∀ (ρ' : En) (w' : World) (g : Nat → Value) (q : Value), (∀ j, j < 4 → ρ' j = ρ j) → At arS w0 D w' ρ' (toB (975) (975) (240) (9) (8) sa sb p q) → Q .normal (actN ρ' 90 (toS 972 9 g) []) w') : tmL.wpIn (Fe none) 0 Tryz.prog Q (actN ρ 90 (toS (971) (8) g) []) w :=
  piece (e := 10) (p1 := .blk [.ptr 6 0, .ptr 9 0, .sl 393 9 0 1, vj (975), .sl 43 8 0 3, .sl 42 8 0 4] 49) (Qv := .sl 393 9 0 1) (Mc := fun q : Value => toB (975) (975) (240) (9) (8) sa sb p q) (lv := toV 972 9) (k0 := 47) (k := 47) entrX tblQ_ok (s8_run sa sb p q g) (sX_obs p1 p2) ⟨rfl, toB_lt _ _ _ _ _ _ _ _ _⟩ (by decide) (lvS (toVB (971) (8))) (ndB_ok (by kernel_rfl)) (fun j hj => by match j, hj with | 0, _ | 1, _ | 2, _ | 3, _ => rfl) (show 4 ≤ 47 by decide) (sX_hp _ _ _ _ _ _ _ _) (fun ρ => by kernel_rfl) (fun q => ⟨rfl, toB_lt _ _ _ _ _ _ _ _ _⟩) rfl (by first | rfl | (rw [add0]; rfl)) (lvB (toVB _ _)) hA hQ
theorem s9_step (sa sb p : Int) (q : Value) (g : Nat → Value) (p1 : 49152 ≤ p) (p2 : p ≤ 49215) {w0 w : World} {D : Nat → Prop} {ρ : En} (hA : At arS w0 D w ρ (toB (1214) (975) (240) (9) (8) sa sb p q)) {Q : Exit → Act → World → Prop} (hQ : ∀ (ρ' : En) (w' : World) (g : Nat → Value) (q : Value), (∀ j, j < 4 → ρ' j = ρ j) → At arS w0 D w' ρ' (toB (1215) (1215) (240) (10) (8) sa sb p q) → Q .normal (actN ρ' 90 (toS 1212 10 g) []) w') : tmL.wpIn (Fe none) 0 Tryz.prog Q (actN ρ 90 (toS (1211) (9) g) []) w :=
  piece (e := 10) (p1 := .blk [.ptr 6 0, .ptr 9 0, .sl 393 9 0 1, vj (1215), .sl 43 8 0 3, .sl 42 8 0 4] 49) (Qv := .sl 393 9 0 1) (Mc := fun q : Value => toB (1215) (1215) (240) (10) (8) sa sb p q) (lv := toV 1212 10) (k0 := 47) (k := 47) entrX tblQ_ok (s9_run sa sb p q g) (sX_obs p1 p2) ⟨rfl, toB_lt _ _ _ _ _ _ _ _ _⟩ (by decide) (lvS (toVB (1211) (9))) (ndB_ok (by kernel_rfl)) (fun j hj => by match j, hj with | 0, _ | 1, _ | 2, _ | 3, _ => rfl) (show 4 ≤ 47 by decide) (sX_hp _ _ _ _ _ _ _ _) (fun ρ => by kernel_rfl) (fun q => ⟨rfl, toB_lt _ _ _ _ _ _ _ _ _⟩) rfl (by first | rfl | (rw [add0]; rfl)) (lvB (toVB _ _)) hA hQ
theorem s10_step (sa sb p : Int) (q : Value) (g : Nat → Value) (p1 : 49152 ≤ p) (p2 : p ≤ 49215) {w0 w : World} {D : Nat → Prop} {ρ : En} (hA : At arS w0 D w ρ (toB (1454) (1215) (240) (10) (8) sa sb p q)) {Q : Exit → Act → World → Prop} (hQ : ∀ (ρ' : En) (w' : World) (g : Nat → Value) (q : Value), (∀ j, j < 4 → ρ' j = ρ j) → At arS w0 D w' ρ' (toB (1455) (1455) (240) (11) (8) sa sb p q) → Q .normal (actN ρ' 90 (toS 1452 11 g) []) w') : tmL.wpIn (Fe none) 0 Tryz.prog Q (actN ρ 90 (toS (1451) (10) g) []) w :=
  piece (e := 10) (p1 := .blk [.ptr 6 0, .ptr 9 0, .sl 393 9 0 1, vj (1455), .sl 43 8 0 3, .sl 42 8 0 4] 49) (Qv := .sl 393 9 0 1) (Mc := fun q : Value => toB (1455) (1455) (240) (11) (8) sa sb p q) (lv := toV 1452 11) (k0 := 47) (k := 47) entrX tblQ_ok (s10_run sa sb p q g) (sX_obs p1 p2) ⟨rfl, toB_lt _ _ _ _ _ _ _ _ _⟩ (by decide) (lvS (toVB (1451) (10))) (ndB_ok (by kernel_rfl)) (fun j hj => by match j, hj with | 0, _ | 1, _ | 2, _ | 3, _ => rfl) (show 4 ≤ 47 by decide) (sX_hp _ _ _ _ _ _ _ _) (fun ρ => by kernel_rfl) (fun q => ⟨rfl, toB_lt _ _ _ _ _ _ _ _ _⟩) rfl (by first | rfl | (rw [add0]; rfl)) (lvB (toVB _ _)) hA hQ
theorem s11_step (sa sb p : Int) (q : Value) (g : Nat → Value) (p1 : 49152 ≤ p) (p2 : p ≤ 49215) {w0 w : World} {D : Nat → Prop} {ρ : En} (hA : At arS w0 D w ρ (toB (1694) (1455) (240) (11) (8) sa sb p q)) {Q : Exit → Act → World → Prop} (hQ : ∀ (ρ' : En) (w' : World) (g : Nat → Value) (q : Value), (∀ j, j < 4 → ρ' j = ρ j) → At arS w0 D w' ρ' (toB (1695) (1695) (240) (12) (8) sa sb p q) → Q .normal (actN ρ' 90 (toS 1692 12 g) []) w') : tmL.wpIn (Fe none) 0 Tryz.prog Q (actN ρ 90 (toS (1691) (11) g) []) w :=
  piece (e := 10) (p1 := .blk [.ptr 6 0, .ptr 9 0, .sl 393 9 0 1, vj (1695), .sl 43 8 0 3, .sl 42 8 0 4] 49) (Qv := .sl 393 9 0 1) (Mc := fun q : Value => toB (1695) (1695) (240) (12) (8) sa sb p q) (lv := toV 1692 12) (k0 := 47) (k := 47) entrX tblQ_ok (s11_run sa sb p q g) (sX_obs p1 p2) ⟨rfl, toB_lt _ _ _ _ _ _ _ _ _⟩ (by decide) (lvS (toVB (1691) (11))) (ndB_ok (by kernel_rfl)) (fun j hj => by match j, hj with | 0, _ | 1, _ | 2, _ | 3, _ => rfl) (show 4 ≤ 47 by decide) (sX_hp _ _ _ _ _ _ _ _) (fun ρ => by kernel_rfl) (fun q => ⟨rfl, toB_lt _ _ _ _ _ _ _ _ _⟩) rfl (by first | rfl | (rw [add0]; rfl)) (lvB (toVB _ _)) hA hQ
theorem fB_obs {sa sb p : Int} {q : Value} {g : Nat → Value} (p1 : 49152 ≤ p) (p2 : p ≤ 49215) : okObs (fB_L sa sb p q g) := by
  unfold fB_L
  (repeat' first | exact okO_nil | refine okO_cons ?_ ?_) <;> first | rfl | exact p_n1 p1 | exact p_n2 p2 | exact p_n3 p2 | exact p_n4 | exact ieq_t rfl | exact keq_refl _ | (simp only [p_n1 p1, p_n2 p2, Bool.and_true, Bool.true_and])
theorem fB_hp (sa sb p : Int) (q : Value) (g : Nat → Value) : ∀ q' : Value, (fB_p sa sb p q g).map Pl.fl = ((toF).map fun x => (x.ren fun j => ([0, 1, 2, 3, 45] : List Nat).getD j 0).fl).set 3 ((MS.getD 3 .none) : Pl Nat).fl := by
  intro q'
  simp only [fB_p, toF, List.map_cons, List.map_nil, ringZ_fl, ringZ_ren]
  kernel_rfl
theorem fB_step (sa sb p : Int) (q : Value) (g : Nat → Value) (p1 : 49152 ≤ p) (p2 : p ≤ 49215) {w0 w : World} {D : Nat → Prop} {ρ : En} (hA : At arS w0 D w ρ (toB (1934) (1695) (240) (12) (8) sa sb p q)) {Q : Exit → Act → World → Prop} (hQ : ∀ (ρ' : En) (w' : World) (g : Nat → Value) (q : Value), (∀ j, j < 4 → ρ' j = ρ j) → At arS w0 D w' ρ' (toF) → Q .normal (actN ρ' 90 (toFS g) []) w') : tmL.wpIn (Fe none) 0 Tryz.prog Q (actN ρ 90 (toS (1931) (12) g) []) w :=
  piece (e := 3) (p1 := (MS.getD 3 .none)) (Qv := .lit undef) (Mc := fun q : Value => toF) (lv := toFV) (k0 := 47) (k := 5) entrY tblQ_ok (fB_run sa sb p q g) (fB_obs p1 p2) ⟨rfl, toB_lt _ _ _ _ _ _ _ _ _⟩ (by decide) (lvS (toVB (1931) (12))) (ndB_ok (by kernel_rfl)) (fun j hj => by match j, hj with | 0, _ | 1, _ | 2, _ | 3, _ => rfl) (show 4 ≤ 47 by decide) (fB_hp sa sb p q g) (fun ρ => by kernel_rfl) (fun q => ⟨rfl, toF_lt⟩) rfl (by first | rfl | (rw [add0]; rfl)) (lvB toFVB) hA hQ
theorem xF_obs {g : Nat → Value} : okObs (xF_L g) := by
  unfold xF_L
  (repeat' first | exact okO_nil | refine okO_cons ?_ ?_) <;> rfl
theorem xF_hp (g : Nat → Value) : ∀ q' : Value, (xF_p g).map Pl.fl = ((toF).map fun x => (x.ren fun j => ([0, 1, 2, 3, 4] : List Nat).getD j 0).fl).set 3 ((MS.getD 3 .none) : Pl Nat).fl := by
  intro q'
  simp only [xF_p, toF, List.map_cons, List.map_nil, ringZ_fl, ringZ_ren]
  kernel_rfl
theorem xF_step (g : Nat → Value)  {w0 w : World} {D : Nat → Prop} {ρ : En} (hA : At arS w0 D w ρ (toF)) {Q : Exit → Act → World → Prop} (hQ : ∀ (ρ' : En) (w' : World) (g : Nat → Value) (q : Value), (∀ j, j < 4 → ρ' j = ρ j) → At arS w0 D w' ρ' (toF) → Q (.exit 0) (actN ρ' 90 (toFS g) []) w') : tmL.wpIn (Fe none) 0 Tryz.prog Q (actN ρ 90 (toFS g) []) w :=
  piece (e := 3) (p1 := (MS.getD 3 .none)) (Qv := .lit undef) (Mc := fun q : Value => toF) (lv := toFV) (k0 := 5) (k := 5) entrX tblQ_ok (xF_run g) (xF_obs) ⟨rfl, toF_lt⟩ (by decide) (lvS toFVB) (ndB_ok (by kernel_rfl)) (fun j hj => by match j, hj with | 0, _ | 1, _ | 2, _ | 3, _ => rfl) (show 4 ≤ 5 by decide) (xF_hp g) (fun ρ => by kernel_rfl) (fun q => ⟨rfl, toF_lt⟩) rfl (by first | rfl | (rw [add0]; rfl)) (lvB toFVB) hA hQ
theorem zF_obs {g : Nat → Value} : okObs (zF_L g) := by
  unfold zF_L
  (repeat' first | exact okO_nil | refine okO_cons ?_ ?_) <;> rfl
theorem MS_lt : ∀ x ∈ MS, x.ltB 4 = true := List.all_eq_true.1 (by kernel_rfl)
theorem zF_hp (g : Nat → Value) : ∀ q' : Value, (zF_p g).map Pl.fl = ((MS).map fun x => (x.ren fun j => ([0, 1, 2, 3] : List Nat).getD j 0).fl).set 3 ((MS.getD 3 .none) : Pl Nat).fl := by
  intro q'
  simp only [zF_p, zF_p, List.map_cons, List.map_nil, ringZ_fl, ringZ_ren]
  kernel_rfl
theorem zF_step (g : Nat → Value)  {w0 w : World} {D : Nat → Prop} {ρ : En} (hA : At arS w0 D w ρ (toF)) {Q : Exit → Act → World → Prop} (hQ : ∀ (ρ' : En) (w' : World) (g : Nat → Value) (q : Value), (∀ j, j < 4 → ρ' j = ρ j) → At arS w0 D w' ρ' (MS) → Q .ret (actN ρ' 90 (mkF 90 0 (slC 90 g [(6, .bool true true)]) .z) []) w') : tmZ.wpIn (Fe none) 0 Tryz.prog Q (actN ρ 90 (toFS g) []) w :=
  piece (e := 3) (p1 := (MS.getD 3 .none)) (Qv := .lit undef) (Mc := fun q : Value => MS) (lv := [(6, .bool true true)]) (k0 := 5) (k := 4) entrX tblQ_ok (zF_run g) (zF_obs) ⟨rfl, toF_lt⟩ (by decide) (lvS toFVB) (ndB_ok (by kernel_rfl)) (fun j hj => by match j, hj with | 0, _ | 1, _ | 2, _ | 3, _ => rfl) (show 4 ≤ 5 by decide) (zF_hp g) (fun ρ => by kernel_rfl) (fun q => ⟨rfl, MS_lt⟩) rfl (by first | rfl | (rw [add0]; rfl)) (lvB (by kernel_rfl)) hA hQ
theorem iA_obs {sa sb p : Int} {q : Value} {g : Nat → Value} : okObs (iA_L sa sb p q g) := okO_nil
theorem toIVB : (toIV.all fun e => Nat.blt e.1 90 && e.2.ltB 46) = true := by kernel_rfl
theorem iA_hp (sa sb p : Int) (q : Value) (g : Nat → Value) : ∀ q' : Value, (iA_p sa sb p q g).map Pl.fl = ((toA 3 3 4 0 0 sa sb p q').map fun x => (x.ren fun j => ([0, 1, 2, 3, 4, 5, 6, 7, 8, 9, 10, 11, 12, 13, 14, 15, 16, 17, 18, 19, 20, 21, 22, 23, 24, 25, 26, 27, 28, 29, 30, 31, 32, 33, 34, 35, 36, 37, 38, 39, 40, 41, 42, 43, 44, 45] : List Nat).getD j 0).fl).set 10 (.blk [.ptr 6 0, .ptr 9 0, .lit q, vj (3), .sl 43 8 0 3, .sl 42 8 0 4] 49 : Pl Nat).fl := by
  intro q'
  simp only [iA_p, toA, List.map_cons, List.map_nil, ringZ_fl, ringZ_ren]
  kernel_rfl
theorem iA_step (sa sb p : Int) (q : Value) (g : Nat → Value)  {w0 w : World} {D : Nat → Prop} {ρ : En} (hA : At arS w0 D w ρ (toA 3 3 4 0 0 sa sb p q)) {Q : Exit → Act → World → Prop} (hQ : ∀ (ρ' : En) (w' : World) (g : Nat → Value) (q : Value), (∀ j, j < 4 → ρ' j = ρ j) → At arS w0 D w' ρ' (toA 3 3 4 0 0 sa sb p q) → Q .normal (actN ρ' 90 (toS 0 0 g) []) w') : tmI.wpIn (Fe none) 0 Tryz.prog Q (actN ρ 90 (toIS g) []) w :=
  piece (e := 10) (p1 := .blk [.ptr 6 0, .ptr 9 0, .lit q, vj (3), .sl 43 8 0 3, .sl 42 8 0 4] 49) (Qv := .lit q) (Mc := fun q : Value => toA 3 3 4 0 0 sa sb p q) (lv := toV 0 0) (k0 := 46) (k := 46) entrX tblQ_ok (iA_run sa sb p q g) (iA_obs) ⟨rfl, toA_lt _ _ _ _ _ _ _ _ _⟩ (by decide) (lvS toIVB) (ndB_ok (by kernel_rfl)) (fun j hj => by match j, hj with | 0, _ | 1, _ | 2, _ | 3, _ => rfl) (show 4 ≤ 46 by decide) (iA_hp sa sb p q g) (fun ρ => by kernel_rfl) (fun q => ⟨rfl, toA_lt _ _ _ _ _ _ _ _ _⟩) rfl (by first | rfl | (rw [add0]; rfl)) (lvB (toVA _ _)) hA hQ
end Go.Proofs.YtockaipodnapjaaGreatDoor

namespace Go.Proofs.YtockaipodnapjaaGreatDoor
open Go Go.RowKit
set_option linter.unusedVariables false
set_option maxRecDepth 100000
theorem pA_obs {a b p : Int} (p1 : 49152 ≤ p) (p2 : p ≤ 49215) : okObs (pA_L p ++ cnE a b) := okO_app (by
  unfold pA_L
  (repeat' first | exact okO_nil | refine okO_cons ?_ ?_) <;> first | rfl | exact p_n1 p1 | exact p_n2 p2 | exact p_n3 p2 | exact p_n4 | exact ieq_t rfl | exact keq_refl _ | (simp only [p_n1 p1, p_n2 p2, Bool.and_true, Bool.true_and])) (cnE_ok a b)
theorem tblT_ok {a b : Int} (ha : inR a = true) (hb : inR b = true) : TblOK arS Tryz.prog (tblT a b (pickF a 4294967296) (pickF b 4294967296) (prt (pickF a 4294967296))) := addT_ok tblQ_ok (cnT_ok ha hb)
theorem pA_hp (sa sb p : Int) : ∀ q' : Value, (pA_p sa sb p).map Pl.fl = ((toA 3 3 4 0 0 sa sb p q').map fun x => (x.ren fun j => ([0, 1, 2, 3, 4, 5, 6, 7, 8, 9, 10, 11, 12, 13, 14, 15, 16, 17, 18, 19, 20, 21, 22, 23, 24, 25, 26, 27, 28, 29, 30, 31, 32, 33, 34, 35, 36, 37, 38, 39, 40, 41, 44, 202, 229, 239] : List Nat).getD j 0).fl).set 10 (.blk [.ptr 6 0, .ptr 9 0, .sl 201 9 0 1, .int false .i64 3, .sl 202 8 0 3, .sl 44 8 0 4] 49 : Pl Nat).fl := by
  intro q'
  simp only [pA_p, toA, List.map_cons, List.map_nil, ringZ_fl, ringZ_ren]
  kernel_rfl
theorem pA_step {a b : Int} (ha : inR a = true) (hb : inR b = true) {X : Code} {w0 w : World} {D : Nat → Prop} {ρ : En} (hA : At arS w0 D w ρ MS) {Q : Exit → Act → World → Prop}
    (hQ : ∀ (ρ' : En) (w' : World) (g : Nat → Value) (q : Value), (∀ j, j < 4 → ρ' j = ρ j) → At arS w0 D w' ρ' (toA 3 3 4 0 0 (pickF a 4294967296) (pickF b 4294967296) (prt (pickF a 4294967296)) q) → X.wpIn (Fe none) 0 Tryz.prog Q (actN ρ' 90 (toIS g) []) w') :
    (chainC tmP X).wpIn (Fe none) 0 Tryz.prog Q (actN ρ 90 (mkF 90 0 [.int true .i64 a, .int true .i64 b, .bool false true] .z) []) w := by
  have h1 := pickF_rg a (n := 4294967296) (by decide)
  have h3 := prt_rg h1.1
  exact piece_chain (e := 10) (p1 := .blk [.ptr 6 0, .ptr 9 0, .sl 201 9 0 1, .int false .i64 3, .sl 202 8 0 3, .sl 44 8 0 4] 49) (Qv := .sl 201 9 0 1) (Mc := fun q : Value => toA 3 3 4 0 0 (pickF a 4294967296) (pickF b 4294967296) (prt (pickF a 4294967296)) q) (lv := toIV) (k0 := 4) (k := 46) entrX (tblT_ok ha hb) (pA_run a b _ _ _) (pA_obs h3.1 h3.2) (by decide) (fun i => MS_sc i) (all_mkF (p := fun v => V.sc _ v) 0 (fun v hv => by rcases List.mem_cons.1 hv with rfl | hv; trivial; rcases List.mem_cons.1 hv with rfl | hv; trivial; rcases List.mem_cons.1 hv with rfl | hv; trivial; cases hv) trivial) (ndB_ok (by kernel_rfl)) (fun j hj => by match j, hj with | 0, _ | 1, _ | 2, _ | 3, _ => rfl) (by decide) (pA_hp _ _ _) (fun ρ => by kernel_rfl) (fun q => ⟨rfl, toA_lt _ _ _ _ _ _ _ _ _⟩) rfl rfl (lvB toIVB) hA hQ
def toT : List (Int × Int × Int × Int) := [(7, 8, 1, 1), (15, 16, 2, 2), (31, 32, 3, 3), (63, 64, 4, 4), (127, 128, 5, 5), (255, 240, 6, 6), (495, 240, 7, 7), (735, 240, 8, 8), (975, 240, 9, 8), (1215, 240, 10, 8), (1455, 240, 11, 8), (1695, 240, 12, 8)]
theorem toT_rg : ∀ t ∈ toT, 7 ≤ t.1 ∧ 0 < t.2.1 ∧ t.2.1 < 1000 ∧ t.1 + t.2.1 ≤ 1935 ∧ 0 ≤ t.2.2.1 ∧ t.2.2.1 < 1000 := by decide
section
variable (w0 : World) (ρ00 : En) (sa sb p : Int)
/-- The head of the loop: before the first retransmission, between two, after the end. -/
def toI (k : Nat) (a : Act) (w : World) : Prop := ∃ ρ g q, (∀ j, j < 4 → ρ j = ρ00 j) ∧
  ((∃ n i : Int, 3 ≤ n ∧ n < 7 ∧ i = n - 3 ∧ k = (2000 - n).toNat ∧ At arS w0 (fun b => b < 3) w ρ (toA n 3 4 0 0 sa sb p q) ∧ a = actN ρ 90 (toS i 0 g) []) ∨
   (∃ n i S V c b : Int, (S, V, c, b) ∈ toT ∧ S ≤ n ∧ n < S + V ∧ i = n - 3 ∧ k = (2000 - n).toNat ∧ At arS w0 (fun b => b < 3) w ρ (toB n S V c b sa sb p q) ∧ a = actN ρ 90 (toS i c g) []) ∨
   (k = 0 ∧ At arS w0 (fun b => b < 3) w ρ toF ∧ a = actN ρ 90 (toFS g) []))
theorem toI_round (p1 : 49152 ≤ p) (p2 : p ≤ 49215) {Q : Exit → Act → World → Prop} (hQ : ∀ ρ w g, (∀ j, j < 4 → ρ j = ρ00 j) → At arS w0 (fun b => b < 3) w ρ toF → Q (.exit 0) (actN ρ 90 (toFS g) []) w) (k : Nat) (a : Act) (w : World) (h : toI w0 ρ00 sa sb p k a w) :
    tmL.wpIn (Fe none) 0 Tryz.prog (Exit.then (fun a' w' => ∃ k', k' < k ∧ toI w0 ρ00 sa sb p k' a' w') Q) a w := by
  obtain ⟨ρ, g, q, hρ, ⟨n, i, h1, h2, h3, hk, hA, rfl⟩ | ⟨n, i, S, V, c, b, ht, h1, h2, h3, hk, hA, rfl⟩ | ⟨hk, hA, rfl⟩⟩ := h
  · by_cases h7 : n < 6
    · refine qA_step n i 3 4 0 0 sa sb p q g (by omega) (by omega) (by omega) (by omega) (by omega) (by omega) (by omega) (by omega) (by omega) (by omega) hA fun ρ' w' g' q' e' A' => ?_
      exact ⟨(2000 - (n + 1)).toNat, by omega, ρ', g', q', fun j hj => (e' j hj).trans (hρ j hj), .inl ⟨n + 1, i + 1, by omega, by omega, by omega, rfl, A', rfl⟩⟩
    · obtain rfl : n = 6 := by omega
      obtain rfl : i = 3 := by omega
      refine s0_step sa sb p q g p1 p2 hA fun ρ' w' g' q' e' A' => ?_
      exact ⟨(2000 - 7 : Int).toNat, by omega, ρ', g', q', fun j hj => (e' j hj).trans (hρ j hj), .inr (.inl ⟨7, 4, 7, 8, 1, 1, by decide, by omega, by omega, by omega, rfl, A', rfl⟩)⟩
  · have hr := toT_rg _ ht
    simp only at hr
    obtain ⟨r1, r2, r3, r4, r5, r6⟩ := hr
    by_cases h7 : n + 1 < S + V
    · refine qB_step n i S V c b sa sb p q g (by omega) (by omega) (by omega) (by omega) (by omega) (by omega) (by omega) (by omega) (by omega) (by omega) hA fun ρ' w' g' q' e' A' => ?_
      exact ⟨(2000 - (n + 1)).toNat, by omega, ρ', g', q', fun j hj => (e' j hj).trans (hρ j hj), .inr (.inl ⟨n + 1, i + 1, S, V, c, b, ht, by omega, by omega, by omega, rfl, A', rfl⟩)⟩
    · simp only [toT, List.mem_cons, List.not_mem_nil, or_false, Prod.mk.injEq] at ht
      rcases ht with ⟨rfl, rfl, rfl, rfl⟩ | ⟨rfl, rfl, rfl, rfl⟩ | ⟨rfl, rfl, rfl, rfl⟩ | ⟨rfl, rfl, rfl, rfl⟩ | ⟨rfl, rfl, rfl, rfl⟩ | ⟨rfl, rfl, rfl, rfl⟩ | ⟨rfl, rfl, rfl, rfl⟩ | ⟨rfl, rfl, rfl, rfl⟩ | ⟨rfl, rfl, rfl, rfl⟩ | ⟨rfl, rfl, rfl, rfl⟩ | ⟨rfl, rfl, rfl, rfl⟩ | ⟨rfl, rfl, rfl, rfl⟩
      · obtain rfl : n = 14 := by omega
        obtain rfl : i = 11 := by omega
        refine s1_step sa sb p q g p1 p2 hA fun ρ' w' g' q' e' A' => ?_
        exact ⟨(2000 - 15 : Int).toNat, by omega, ρ', g', q', fun j hj => (e' j hj).trans (hρ j hj), .inr (.inl ⟨15, 12, 15, 16, 2, 2, by decide, by omega, by omega, by omega, rfl, A', rfl⟩)⟩
      · obtain rfl : n = 30 := by omega
        obtain rfl : i = 27 := by omega
        refine s2_step sa sb p q g p1 p2 hA fun ρ' w' g' q' e' A' => ?_
        exact ⟨(2000 - 31 : Int).toNat, by omega, ρ', g', q', fun j hj => (e' j hj).trans (hρ j hj), .inr (.inl ⟨31, 28, 31, 32, 3, 3, by decide, by omega, by omega, by omega, rfl, A', rfl⟩)⟩
      · obtain rfl : n = 62 := by omega
        obtain rfl : i = 59 := by omega
        refine s3_step sa sb p q g p1 p2 hA fun ρ' w' g' q' e' A' => ?_
        exact ⟨(2000 - 63 : Int).toNat, by omega, ρ', g', q', fun j hj => (e' j hj).trans (hρ j hj), .inr (.inl ⟨63, 60, 63, 64, 4, 4, by decide, by omega, by omega, by omega, rfl, A', rfl⟩)⟩
      · obtain rfl : n = 126 := by omega
        obtain rfl : i = 123 := by omega
        refine s4_step sa sb p q g p1 p2 hA fun ρ' w' g' q' e' A' => ?_
        exact ⟨(2000 - 127 : Int).toNat, by omega, ρ', g', q', fun j hj => (e' j hj).trans (hρ j hj), .inr (.inl ⟨127, 124, 127, 128, 5, 5, by decide, by omega, by omega, by omega, rfl, A', rfl⟩)⟩
      · obtain rfl : n = 254 := by omega
        obtain rfl : i = 251 := by omega
        refine s5_step sa sb p q g p1 p2 hA fun ρ' w' g' q' e' A' => ?_
        exact ⟨(2000 - 255 : Int).toNat, by omega, ρ', g', q', fun j hj => (e' j hj).trans (hρ j hj), .inr (.inl ⟨255, 252, 255, 240, 6, 6, by decide, by omega, by omega, by omega, rfl, A', rfl⟩)⟩
      · obtain rfl : n = 494 := by omega
        obtain rfl : i = 491 := by omega
        refine s6_step sa sb p q g p1 p2 hA fun ρ' w' g' q' e' A' => ?_
        exact ⟨(2000 - 495 : Int).toNat, by omega, ρ', g', q', fun j hj => (e' j hj).trans (hρ j hj), .inr (.inl ⟨495, 492, 495, 240, 7, 7, by decide, by omega, by omega, by omega, rfl, A', rfl⟩)⟩
      · obtain rfl : n = 734 := by omega
        obtain rfl : i = 731 := by omega
        refine s7_step sa sb p q g p1 p2 hA fun ρ' w' g' q' e' A' => ?_
        exact ⟨(2000 - 735 : Int).toNat, by omega, ρ', g', q', fun j hj => (e' j hj).trans (hρ j hj), .inr (.inl ⟨735, 732, 735, 240, 8, 8, by decide, by omega, by omega, by omega, rfl, A', rfl⟩)⟩
      · obtain rfl : n = 974 := by omega
        obtain rfl : i = 971 := by omega
        refine s8_step sa sb p q g p1 p2 hA fun ρ' w' g' q' e' A' => ?_
        exact ⟨(2000 - 975 : Int).toNat, by omega, ρ', g', q', fun j hj => (e' j hj).trans (hρ j hj), .inr (.inl ⟨975, 972, 975, 240, 9, 8, by decide, by omega, by omega, by omega, rfl, A', rfl⟩)⟩
      · obtain rfl : n = 1214 := by omega
        obtain rfl : i = 1211 := by omega
        refine s9_step sa sb p q g p1 p2 hA fun ρ' w' g' q' e' A' => ?_
        exact ⟨(2000 - 1215 : Int).toNat, by omega, ρ', g', q', fun j hj => (e' j hj).trans (hρ j hj), .inr (.inl ⟨1215, 1212, 1215, 240, 10, 8, by decide, by omega, by omega, by omega, rfl, A', rfl⟩)⟩
      · obtain rfl : n = 1454 := by omega
        obtain rfl : i = 1451 := by omega
        refine s10_step sa sb p q g p1 p2 hA fun ρ' w' g' q' e' A' => ?_
        exact ⟨(2000 - 1455 : Int).toNat, by omega, ρ', g', q', fun j hj => (e' j hj).trans (hρ j hj), .inr (.inl ⟨1455, 1452, 1455, 240, 11, 8, by decide, by omega, by omega, by omega, rfl, A', rfl⟩)⟩
      · obtain rfl : n = 1694 := by omega
        obtain rfl : i = 1691 := by omega
        refine s11_step sa sb p q g p1 p2 hA fun ρ' w' g' q' e' A' => ?_
        exact ⟨(2000 - 1695 : Int).toNat, by omega, ρ', g', q', fun j hj => (e' j hj).trans (hρ j hj), .inr (.inl ⟨1695, 1692, 1695, 240, 12, 8, by decide, by omega, by omega, by omega, rfl, A', rfl⟩)⟩
      · obtain rfl : n = 1934 := by omega
        obtain rfl : i = 1931 := by omega
        refine fB_step sa sb p q g p1 p2 hA fun ρ' w' g' q' e' A' => ?_
        exact ⟨0, by omega, ρ', g', q', fun j hj => (e' j hj).trans (hρ j hj), .inr (.inr ⟨rfl, A', rfl⟩)⟩
  · refine xF_step g hA fun ρ' w' g' q' e' A' => ?_
    exact hQ ρ' w' g' (fun j hj => (e' j hj).trans (hρ j hj)) A'
end
theorem timeout_t (a b : Int) (w : World) (hw : Glbs w) (ha : inR a = true) (hb : inR b = true) : Calls Tryz.prog 6 #[.int .i64 a, .int .i64 b, .bool true] w fun e w' => e = .returned (.bool true) ∧ Below w.heap.size w w' := by
  obtain ⟨ρ, hA, hend⟩ := glbs_at w hw
  have h1 := pickF_rg a (n := 4294967296) (by decide)
  have h3 := prt_rg h1.1
  refine call_of_wp (ρ := ρ) (args := [.int true .i64 a, .int true .i64 b, .bool false true]) (fn := Tryz.f6) rfl tmB_eq (show 3 ≤ 90 by decide) ?_
  refine pA_step ha hb hA fun ρ1 w1 g1 q1 e1 A1 => ?_
  refine wpIn_seq (wpIn_seq (iA_step _ _ _ q1 g1 A1 fun ρ2 w2 g2 q2 e2 A2 => wpIn_block (wpIn_loop_ghost (toI w ρ (pickF a 4294967296) (pickF b 4294967296) (prt (pickF a 4294967296))) 1997 ?_ (toI_round w ρ _ _ _ h3.1 h3.2 ?_))))
  · exact ⟨ρ2, g2, q2, fun j hj => (e2 j hj).trans (e1 j hj), .inl ⟨3, 0, by omega, by omega, by omega, rfl, A2, rfl⟩⟩
  · intro ρ3 w3 g3 e3 A3
    refine zF_step g3 A3 fun ρ4 w4 g4 q4 e4 A4 => ?_
    refine (fin_leaves (ar := arS) (A := Nat) (P := Tryz.prog) (fn := Tryz.f6) (ds := []) (ch := []) (M := MS) (obs := []) (lg := .nil) (r := rv (.bool true true)) (M' := MS) (ch' := []) (obs' := []) (lg' := .nil) (by kernel_rfl)).2.2 A4 (fun i => MS_sc i) (B := fun n => n < 4) (lvS (k := 4) (by kernel_rfl)) fun v w' hv _ A5 _ => ?_
    cases hv
    exact ⟨rfl, hend ρ4 w' MS (fun j hj => (e4 j (by omega)).trans (e3 j (by omega))) A5 (fun i _ => rfl) (by decide)⟩
end Go.Proofs.YtockaipodnapjaaGreatDoor

