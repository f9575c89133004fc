/- A machine of symbolic values: SocketTimeout, walked. -/
import Derived.Test.YtockaipodnapjaaGreatDoorVt3
namespace Go.Proofs.YtockaipodnapjaaGreatDoor
open Go Go.RowKit
set_option linter.unusedVariables false
set_option maxRecDepth 100000
def uFV : List (Nat × V) := [(6, vF), (7, vT), (10, vi 4), (11, vj 12), (12, .ptr 4 0), (13, vT), (14, vj 2292)]
noncomputable def uFS (g : Nat → Value) : Nd V := mkF 90 0 (slC 90 g uFV) .z
def prt2 (s : Int) : Int := Int.add 49152 (Int.tmod (Int.add (Int.tmod (Int.add (Int.add (Int.tmod s 64) (Int.tmod 1 64)) 64) 64) 0) 64)
def ufB_L (sa sb p r : Int) (q : Value) (g : Nat → Value) : Obs := [(true, true), (true, true), (true, true), (false, false), (true, true), (true, true), (false, false), (true, true), (true, true), (false, false), (true, true), (true, true), (false, false), (keq (Key.i r) (Key.i r), true), (keq (Key.i r) (Key.i p), false), (keq (Key.i r) (Key.i r), true), (keq (Key.i r) (Key.i p), false), (keq (Key.i r) (Key.i r), true), (keq (Key.i r) (Key.i p), false), (keq (Key.i r) (Key.i r), true), (keq (Key.i r) (Key.i p), false), (keq (Key.t r (oN 9) (oN 9)) (Key.t r (oN 9) (oN 9)), true), (keq (Key.t r (oN 9) (oN 9)) (Key.t p (oN 2) (oN 80)), false), (true, true), (false, false), (true, true), (false, false), (keq (Key.p (oN 6) r) (Key.p (oN 6) r), true), (keq (Key.p (oN 6) r) (Key.p (oN 6) p), false), (true, true), (false, false), (true, true), (false, false), (true, true), (true, true), (false, false), (true, true), (true, true), (false, false), (true, true), (true, true), (true, true), (true, true), (true, true), (true, true), (true, true), (true, true), (true, true), (true, true), (true, true), (true, true), (true, true), (true, true), (true, true), (false, false), (true, true), (true, true), (true, true), (true, true), (true, true)]
def ufB_p (sa sb p r : Int) (q : Value) (g : Nat → Value) : List (Pl Nat) := [(MS.getD 0 .none),
  (MS.getD 1 .none),
  (MS.getD 2 .none),
  (MS.getD 3 .none),
  .blk [vi 4, vi 182, vi 0, .str false ⟨#[]⟩, vi 0, vi 0, vN, vF] 35]
theorem ufB_run (sa sb p r : Int) (q : Value) (g : Nat → Value) : runF (fun _ => none) ((evF Tryz.prog kofY tblQ 400).code 90 false tmL (uS (2291) (12) g) [] kEnd) [true, true, true, true, false, true, true, true, true, true, true, true, true, true, true, true, true, true, true, false, true, true, false, true, true, false, true, false, true, false, true, false, true, false, true, false, true, false, true, false, true, false, true, false, true, false, true, true, false, true, true, false, true, true, false, true] (uB (2294) (2055) (240) (12) (8) sa sb p r q).length (trM 0 (uB (2294) (2055) (240) (12) (8) sa sb p r q) .z) [] 0 0 (endC 90 [6, 7, 10, 11, 12, 13, 14] [0, 1, 2, 3, 55]) = some (ufB_L sa sb p r q g, .normal, [vF, vT, vi 4, vj 12, .ptr 55 0, vT, vj 2292], ufB_p sa sb p r q g) := by kernel_rfl
def uxF_L (g : Nat → Value) : Obs := [(true, true), (true, true), (true, true)]
def uxF_p (g : Nat → Value) : List (Pl Nat) := [(MS.getD 0 .none),
  (MS.getD 1 .none),
  (MS.getD 2 .none),
  (MS.getD 3 .none),
  .blk [vi 4, vi 182, vi 0, .str false ⟨#[]⟩, vi 0, vi 0, vN, vF] 35]
theorem uxF_run (g : Nat → Value) : runF (fun _ => none) ((evF Tryz.prog kofX tblQ 400).code 90 false tmL (uFS g) [] kEnd) [true, true, true] (toF).length (trM 0 (toF) .z) [] 0 0 (endC 90 [6, 7, 10, 11, 12, 13, 14] [0, 1, 2, 3, 4]) = some (uxF_L g, (.exit 0), [vF, vT, vi 4, vj 12, .ptr 4 0, vT, vj 2292], uxF_p g) := by kernel_rfl
def uzF_L (g : Nat → Value) : Obs := [(true, true), (true, true), (true, true)]
def uzF_p (g : Nat → Value) : List (Pl Nat) := [(MS.getD 0 .none),
  (MS.getD 1 .none),
  (MS.getD 2 .none),
  (MS.getD 3 .none)]
theorem uzF_run (g : Nat → Value) : runF (fun _ => none) ((evF Tryz.prog kofX tblQ 400).code 90 false tmZ (uFS g) [] kEnd) [true, true, true] (toF).length (trM 0 (toF) .z) [] 0 0 (endC 90 [6] [0, 1, 2, 3]) = some (uzF_L g, .ret, [.bool true true], uzF_p g) := by kernel_rfl
def uIV : List (Nat × V) := [(6, vF), (7, vT), (8, .ptr 10 0), (10, vi 4), (11, vj 0), (12, .ptr 55 0), (13, vF)]
noncomputable def uIS (g : Nat → Value) : Nd V := mkF 90 0 (slC 90 g uIV) .z
def uiA_L (sa sb p r : Int) (q : Value) (g : Nat → Value) : Obs := []
def uiA_p (sa sb p r : Int) (q : Value) (g : Nat → Value) : List (Pl Nat) := [(MS.getD 0 .none),
  (MS.getD 1 .none),
  (MS.getD 2 .none),
  .none,
  .blk [vj sa, vi 2, .nm 16, .nm 17, .nm 19, .nm 20, .nm 22] 170,
  .map 0 [(.i 1, .ptr 11 0), (.i 2, .ptr 43 0)],
  .blk [vj sa, .ptr 4 0, .nm 5, vi 2, vi 2, vi 4, .sl 54 9 0 1, vN, vN] 88,
  .blk [vj sb, vi 0, .nm 13, .nm 14, .nm 36, .nm 37, .nm 39] 170,
  .map 0 [(.i 1, .ptr 12 0), (.i 2, .ptr 40 0)],
  .blk [vj sb, .ptr 7 0, .nm 8, vi 2, vi 1, vi 4, vN, vN, vN] 88,
  .blk [.ptr 6 0, .ptr 9 0, .lit q, vj 3, .sl 44 8 0 3, .sl 42 8 0 4] 49,
  .blk [.ptr 26 0, vi 1, vi 6, vT, vi 0, vi 0, vi 0, vi 1, vj p, vi 2, vi 80, vN, vi 0, vi 0] 74,
  .blk [.lit (.pointer none), vi 1, vi 6, vT, vi 0, vi 3, vi 500, vi 0, vi 80, vi 0, vi 0, vN, vi 0, vi 0] 74,
  .map 1 [(.p 6 80, vi 1)],
  .map 0 [(.i 1, .sl 15 2 0 1)],
  .row 220 2 [[vi 6, vi 80]],
  .map 1 [(.p 6 p, vi 1), (.p 6 r, vi 2)],
  .map 0 [(.i 1, .sl 18 2 0 1), (.i 2, .sl 45 2 0 1)],
  .row 220 2 [[vi 6, vj p]],
  .map 2 [(.t p 2 80, vi 1), (.t r 9 9, vi 2)],
  .map 0 [(.i 1, .sl 21 3 0 1), (.i 2, .sl 46 3 0 1)],
  .row 224 3 [[vj p, vi 2, vi 80]],
  .map 0 [(.i p, vi 1), (.i r, vi 1)],
  .none,
  ringZ,
  .blk [.sl 24 1 0 2048, vi 0, vi 0, vN, vi 0] 263,
  .blk [.ptr 27 0, .ptr 28 0, .ptr 41 0, .str false ⟨#[]⟩, vi 1, vi 2049, vi 2048, vi 500, vT, vF, vi 0, .ptr 25 0, .sq 29 1048576, vi 2048, vi 2048, vF, vi 0, vF, vi 0, vF, vi 0, vi 0, vj p, vi 80, .sq 23 1048576, vi 500, vi 2048, vi 2048, vi 3, vi 0, vF, vi 0, vi 0, vi 0, vF, vi 0, vi 0] 119,
  .blk [vi 1, vi 1, vi 0, vN, vN] 298,
  .blk [vT, vi 8, vi 2, vF, vi 1, vi 0, vi 0] 280,
  .none,
  ringZ,
  .blk [.sl 30 1 0 2048, vi 0, vi 0, vN, vi 0] 263,
  .blk [.ptr 33 0, .ptr 34 0, .ptr 35 0, .str false ⟨#[]⟩, vi 1, vi 2049, vi 2048, vi 500, vT, vF, vi 0, .ptr 31 0, .sq 23 1048576, vi 2048, vi 2048, vF, vi 0, vF, vi 0, vF, vi 0, vi 0, vi 80, vj p, .sq 29 1048576, vi 500, vi 2048, vi 2048, vi 3, vi 0, vF, vi 0, vi 0, vi 0, vF, vi 0, vi 0] 119,
  .blk [vi 1, vi 1, vi 0, vN, vN] 298,
  .blk [vT, vi 8, vi 2, vF, vi 1, vi 0, vi 0] 280,
  .blk [vi 500, vi 1000, vi 65535, vF, vi 0, .fn (.func 306) [] [], .fn (.func 307) [] []] 339,
  .map 2 [(.t 80 1 p, vi 2)],
  .map 0 [(.i 2, .sl 38 3 0 1)],
  .row 224 3 [[vi 80, vi 1, vj p]],
  .map 0 [(.i 80, vi 1)],
  .blk [.ptr 32 0, vi 2, vi 6, vT, vi 0, vi 0, vi 0, vi 2, vi 80, vi 1, vj p, vN, vi 0, vi 0] 74,
  .blk [vi 500, vi 1000, vi 65535, vF, vi 0, .fn (.func 306) [] [], .fn (.func 307) [] []] 339,
  .row 35 8 [[vi 1, vi 0, vi 1, .str false ⟨#[]⟩, vi 0, vi 0, vN, vF], [vi 2, vi 0, vi 80, .str false ⟨#[]⟩, vi 0, vi 0, vN, vF], [vi 3, vi 0, vi 0, .str false ⟨#[]⟩, vi 0, vi 0, vN, vF], [vi 4, vi 0, vi 2, .str false ⟨#[]⟩, vi 1, vj p, vN, vF]],
  .blk [.ptr 51 0, vi 2, vi 6, vT, vi 0, vi 0, vi 0, vi 1, vj r, vi 9, vi 9, vN, vi 0, vi 0] 74,
  .row 35 8 [[vi 1, vi 0, vi 1, .str false ⟨#[]⟩, vi 0, vi 0, vN, vF], [vi 2, vi 0, vi 0, .str false ⟨#[]⟩, vi 0, vi 0, vN, vF], [vi 3, vi 0, vi 2, .str false ⟨#[]⟩, vi 0, vi 0, vN, vF]],
  .row 220 2 [[vi 6, vj r]],
  .row 224 3 [[vj r, vi 9, vi 9]],
  .none,
  ringZ,
  .blk [.sl 48 1 0 2048, vi 0, vi 0, vN, vi 0] 263,
  .blk [vi 500, vi 1000, vi 65535, vF, vi 0, .fn (.func 306) [] [], .fn (.func 307) [] []] 339,
  .blk [.ptr 52 0, .ptr 53 0, .ptr 50 0, .str false ⟨#[]⟩, vi 1, vi 0, vi 0, vi 500, vF, vF, vi 0, .ptr 49 0, vi 0, vi 2048, vi 2048, vF, vi 0, vF, vi 0, vF, vi 0, vi 0, vj r, vi 9, .sq 47 2097152, vi 500, vi 2048, vi 2048, vi 1, vi 0, vT, vj 3, vj 12, vj 0, vF, vi 0, vi 0] 119,
  .blk [vi 0, vi 1, vi 0, vN, vN] 298,
  .blk [vF, vi 0, vi 0, vT, vi 1, vi 3, vj 0] 280,
  .row 104 9 [[vi 4, vi 2, vi 9, vi 9, vi 0, .str false ⟨#[]⟩, vi 1, vi 500, vi 4]],
  .blk [vi 0, vi 0, vi 0, .str false ⟨#[]⟩, vi 0, vi 0, vN, vF] 35]
theorem uiA_run (sa sb p r : Int) (q : Value) (g : Nat → Value) : runF (fun _ => none) ((evF Tryz.prog kofX tblQ 400).code 90 false tmI (uIS g) [] kEnd) [] (uA 3 3 12 0 0 sa sb p r q).length (trM 0 (uA 3 3 12 0 0 sa sb p r q) .z) [] 0 0 (endC 90 [6, 7, 8, 10, 11, 12, 13, 14] [0, 1, 2, 3, 4, 5, 6, 7, 8, 9, 10, 11, 12, 13, 14, 15, 16, 17, 18, 19, 20, 21, 22, 23, 24, 25, 26, 27, 28, 29, 30, 31, 32, 33, 34, 35, 36, 37, 38, 39, 40, 41, 42, 43, 44, 45, 46, 47, 48, 49, 50, 51, 52, 53, 54, 55]) = some (uiA_L sa sb p r q g, .normal, [vF, vT, .ptr 10 0, vi 4, vj 0, .ptr 55 0, vF, vi 0], uiA_p sa sb p r q g) := by kernel_rfl
def pU_L (sa p r : Int) : Obs := [(true, true), (false, false), (true, true), (true, true), (false, false), (true, true), (true, true), (false, false), (!ilt r (oN 1) && !ilt (oN 65535) r && true && true && true, true), (!!ilt (oN 65535) r, false), (!!ilt (oN 65535) r, false), (!!ilt (oN 65535) r, false), (!!ilt (oN 65535) r, false), (!!ilt (oN 65535) r, false), (!ilt r (oN 1), true), (!ilt r (oN 1), true), (!ilt r (oN 1), true), (keq (Key.i r) (Key.i p), false), (keq (Key.i r) (Key.i p), false), (false, false), (false, false), (keq (Key.t r (oN 9) (oN 9)) (Key.t p (oN 2) (oN 80)), false), (keq (Key.t r (oN 9) (oN 9)) (Key.t p (oN 2) (oN 80)), false), (!!ilt (oN 65535) r, false), (!!ilt (oN 65535) r, false), (!!ilt (oN 65535) r, false), (!!ilt (oN 65535) r, false), (!ilt r (oN 1), true), (!ilt r (oN 1), true), (!ilt r (oN 1), true), (false, false), (false, false), (keq (Key.p (oN 6) r) (Key.p (oN 6) p), false), (keq (Key.i r) (Key.i p), false), (keq (Key.p (oN 6) r) (Key.p (oN 6) p), false), (inR r, true), (true, true), (inR (((((sa.tmod (oN 64)).add ((oN 1).tmod (oN 64))).add (oN 64)).tmod (oN 64)).add (oN 0)), true), (true, true), (inR (((sa.tmod (oN 64)).add ((oN 1).tmod (oN 64))).add (oN 64)), true), (inR ((sa.tmod (oN 64)).add ((oN 1).tmod (oN 64))), true), (true, true), (true, true), (false, false), (true, true), (false, false), (false, false), (false, false), (false, false), (false, false), (false, false), (false, false), (false, false), (false, false), (false, false), (false, false), (false, false), (false, false), (false, false), (false, false), (false, false), (false, false), (false, false), (false, false), (false, false), (false, false), (false, false), (false, false), (false, false), (false, false), (false, false), (false, false), (false, false), (false, false), (false, false), (false, false), (false, false), (false, false), (false, false), (false, false), (false, false), (false, false), (false, false), (false, false), (false, false), (false, false), (false, false), (false, false), (false, false), (false, false), (false, false), (false, false), (false, false), (false, false), (false, false), (false, false), (false, false), (false, false), (false, false), (false, false), (false, false), (false, false), (false, false), (true, true), (false, false), (true, true), (false, false), (true, true), (true, true), (false, false), (true, true), (false, false), (true, true), (false, false), (false, false), (false, false), (false, false), (false, false), (false, false), (false, false), (false, false), (false, false), (false, false), (false, false), (false, false), (false, false), (false, false), (false, false), (false, false), (false, false), (false, false), (false, false), (false, false), (false, false), (false, false), (false, false), (false, false), (false, false), (false, false), (false, false), (false, false), (false, false), (false, false), (false, false), (false, false), (false, false), (false, false), (false, false), (false, false), (false, false), (false, false), (false, false), (false, false), (false, false), (false, false), (false, false), (false, false), (false, false), (false, false), (false, false), (false, false), (false, false), (false, false), (false, false), (false, false), (false, false), (false, false), (false, false), (false, false)]
def pU_p (sa sb p r : Int) : List (Pl Nat) := [(MS.getD 0 .none),
  (MS.getD 1 .none),
  (MS.getD 2 .none),
  .none,
  .blk [vj sa, vi 2, .nm 16, .nm 17, .nm 19, .nm 20, .nm 22] 170,
  .map 0 [(.i 1, .ptr 11 0), (.i 2, .ptr 54 0)],
  .blk [vj sa, .ptr 4 0, .nm 5, vi 2, vi 2, vi 4, .sl 159 9 0 1, vN, vN] 88,
  .blk [vj sb, vi 0, .nm 13, .nm 14, .nm 36, .nm 37, .nm 39] 170,
  .map 0 [(.i 1, .ptr 12 0), (.i 2, .ptr 40 0)],
  .blk [vj sb, .ptr 7 0, .nm 8, vi 2, vi 1, vi 4, vN, vN, vN] 88,
  .blk [.ptr 6 0, .ptr 9 0, .sl 172 9 0 1, vi 3, .sl 78 8 0 3, .sl 44 8 0 4] 49,
  .blk [.ptr 26 0, vi 1, vi 6, vT, vi 0, vi 0, vi 0, vi 1, vj p, vi 2, vi 80, vN, vi 0, vi 0] 74,
  .blk [.lit (.pointer none), vi 1, vi 6, vT, vi 0, vi 3, vi 500, vi 0, vi 80, vi 0, vi 0, vN, vi 0, vi 0] 74,
  .map 1 [(.p 6 80, vi 1)],
  .map 0 [(.i 1, .sl 15 2 0 1)],
  .row 220 2 [[vi 6, vi 80]],
  .map 1 [(.p 6 p, vi 1), (.p 6 r, vi 2)],
  .map 0 [(.i 1, .sl 18 2 0 1), (.i 2, .sl 94 2 0 1)],
  .row 220 2 [[vi 6, vj p]],
  .map 2 [(.t p 2 80, vi 1), (.t r 9 9, vi 2)],
  .map 0 [(.i 1, .sl 21 3 0 1), (.i 2, .sl 98 3 0 1)],
  .row 224 3 [[vj p, vi 2, vi 80]],
  .map 0 [(.i p, vi 1), (.i r, vi 1)],
  .none,
  ringZ,
  .blk [.sl 24 1 0 2048, vi 0, vi 0, vN, vi 0] 263,
  .blk [.ptr 27 0, .ptr 28 0, .ptr 41 0, .str false ⟨#[]⟩, vi 1, vi 2049, vi 2048, vi 500, vT, vF, vi 0, .ptr 25 0, .sq 29 1048576, vi 2048, vi 2048, vF, vi 0, vF, vi 0, vF, vi 0, vi 0, vj p, vi 80, .sq 23 1048576, vi 500, vi 2048, vi 2048, vi 3, vi 0, vF, vi 0, vi 0, vi 0, vF, vi 0, vi 0] 119,
  .blk [vi 1, vi 1, vi 0, vN, vN] 298,
  .blk [vT, vi 8, vi 2, vF, vi 1, vi 0, vi 0] 280,
  .none,
  ringZ,
  .blk [.sl 30 1 0 2048, vi 0, vi 0, vN, vi 0] 263,
  .blk [.ptr 33 0, .ptr 34 0, .ptr 35 0, .str false ⟨#[]⟩, vi 1, vi 2049, vi 2048, vi 500, vT, vF, vi 0, .ptr 31 0, .sq 23 1048576, vi 2048, vi 2048, vF, vi 0, vF, vi 0, vF, vi 0, vi 0, vi 80, vj p, .sq 29 1048576, vi 500, vi 2048, vi 2048, vi 3, vi 0, vF, vi 0, vi 0, vi 0, vF, vi 0, vi 0] 119,
  .blk [vi 1, vi 1, vi 0, vN, vN] 298,
  .blk [vT, vi 8, vi 2, vF, vi 1, vi 0, vi 0] 280,
  .blk [vi 500, vi 1000, vi 65535, vF, vi 0, .fn (.func 306) [] [], .fn (.func 307) [] []] 339,
  .map 2 [(.t 80 1 p, vi 2)],
  .map 0 [(.i 2, .sl 38 3 0 1)],
  .row 224 3 [[vi 80, vi 1, vj p]],
  .map 0 [(.i 80, vi 1)],
  .blk [.ptr 32 0, vi 2, vi 6, vT, vi 0, vi 0, vi 0, vi 2, vi 80, vi 1, vj p, vN, vi 0, vi 0] 74,
  .blk [vi 500, vi 1000, vi 65535, vF, vi 0, .fn (.func 306) [] [], .fn (.func 307) [] []] 339,
  .row 35 8 [[vi 1, vi 0, vi 1, .str false ⟨#[]⟩, vi 0, vi 0, vN, vF], [vi 2, vi 0, vi 80, .str false ⟨#[]⟩, vi 0, vi 0, vN, vF], [vi 3, vi 0, vi 0, .str false ⟨#[]⟩, vi 0, vi 0, vN, vF], [vi 4, vi 0, vi 2, .str false ⟨#[]⟩, vi 1, vj p, vN, vF]],
  .blk [.ptr 107 0, vi 2, vi 6, vT, vi 0, vi 0, vi 0, vi 1, vj r, vi 9, vi 9, vN, vi 0, vi 0] 74,
  .row 35 8 [[vi 1, vi 0, vi 1, .str false ⟨#[]⟩, vi 0, vi 0, vN, vF], [vi 2, vi 0, vi 0, .str false ⟨#[]⟩, vi 0, vi 0, vN, vF], [vi 3, vi 0, vi 2, .str false ⟨#[]⟩, vi 0, vi 0, vN, vF]],
  .row 220 2 [[vi 6, vj r]],
  .row 224 3 [[vj r, vi 9, vi 9]],
  .none,
  ringZ,
  .blk [.sl 104 1 0 2048, vi 0, vi 0, vN, vi 0] 263,
  .blk [vi 500, vi 1000, vi 65535, vF, vi 0, .fn (.func 306) [] [], .fn (.func 307) [] []] 339,
  .blk [.ptr 108 0, .ptr 109 0, .ptr 106 0, .str false ⟨#[]⟩, vi 1, vi 0, vi 0, vi 500, vF, vF, vi 0, .ptr 105 0, vi 0, vi 2048, vi 2048, vF, vi 0, vF, vi 0, vF, vi 0, vi 0, vj r, vi 9, .sq 100 2097152, vi 500, vi 2048, vi 2048, vi 1, vi 0, vT, vi 3, vi 12, vi 0, vF, vi 0, vi 0] 119,
  .blk [vi 0, vi 1, vi 0, vN, vN] 298,
  .blk [vF, vi 0, vi 0, vT, vi 1, vi 3, vi 0] 280,
  .row 104 9 [[vi 4, vi 2, vi 9, vi 9, vi 0, .str false ⟨#[]⟩, vi 1, vi 500, vi 4]],
  .blk [vi 0, vi 0, vi 0, .str false ⟨#[]⟩, vi 0, vi 0, vN, vF] 35]
theorem pU_run (a b sa sb p : Int) : runF (fun _ => none) ((evF Tryz.prog kofY (tblT a b sa sb p) 400).code 90 false (chainC tmP .skip) (mkF 90 0 [vj a, vj b, vF] .z) [] kEnd) [false, false, false, false, false, false, false, false, false, false, false, false, false, false, false, false, false, false, false, false, false, false, false, false, false, false, false, false, false, false, false, false, false, false, false, false, false, false, false, false, false, false, false, false, false, false, false, false, false, false, false, false, false, false, false, false, true, false, true, false, true, true, false, true, false, true, false, false, false, false, false, false, false, false, false, false, false, false, false, false, false, false, false, false, false, false, false, false, false, false, false, false, false, false, false, false, false, false, false, false, false, false, false, false, false, false, false, false, false, false, false, false, false, false, false, false, false, false, false, false, false, false, false, false, true, false, false, false, false, false, false, true, true, true, false, false, false, false, false, false, false, false, false, false, true, true, true, false, false, false, false, false, false, true, true, false, true, true, false, true] MS.length (trM 0 MS .z) [] 0 0 (endC 90 [6, 7, 8, 10, 11, 12, 13] [0, 1, 2, 3, 4, 5, 6, 7, 8, 9, 10, 11, 12, 13, 14, 15, 16, 17, 18, 19, 20, 21, 22, 23, 24, 25, 26, 27, 28, 29, 30, 31, 32, 33, 34, 35, 36, 37, 38, 39, 40, 41, 44, 54, 78, 94, 98, 100, 104, 105, 106, 107, 108, 109, 159, 174]) = some (pU_L sa p (prt2 sa) ++ cnE a b, .normal, [vF, vT, .ptr 10 0, vi 4, vi 0, .ptr 174 0, vF], pU_p sa sb p (prt2 sa)) := by kernel_rfl
end Go.Proofs.YtockaipodnapjaaGreatDoor

namespace Go.Proofs.YtockaipodnapjaaGreatDoor
open Go Go.RowKit
set_option linter.unusedVariables false
set_option maxRecDepth 100000
theorem uA_lt (n S V c b sa sb p r : Int) (q : Value) : ∀ x ∈ uA n S V c b sa sb p r q, x.ltB 56 = true := List.all_eq_true.1 (by kernel_rfl)
theorem uB_lt (n S V c b sa sb p r : Int) (q : Value) : ∀ x ∈ uB n S V c b sa sb p r q, x.ltB 56 = true := List.all_eq_true.1 (by kernel_rfl)
theorem uVB (i c : Int) : ((uV i c).all fun e => Nat.blt e.1 90 && e.2.ltB 56) = true := by kernel_rfl
theorem uFVB : (uFV.all fun e => Nat.blt e.1 90 && e.2.ltB 5) = true := by kernel_rfl
theorem uIVB : (uIV.all fun e => Nat.blt e.1 90 && e.2.ltB 56) = true := by kernel_rfl
theorem prt2_rg {s : Int} (h : 0 ≤ s) : 49152 ≤ prt2 s ∧ prt2 s ≤ 49215 ∧ prt2 s ≠ prt s := by
  show (49152 : Int) ≤ 49152 + ((((s.tmod 64 + Int.tmod 1 64) + 64).tmod 64 + 0).tmod 64) ∧ 49152 + ((((s.tmod 64 + Int.tmod 1 64) + 64).tmod 64 + 0).tmod 64) ≤ 49215 ∧ 49152 + ((((s.tmod 64 + Int.tmod 1 64) + 64).tmod 64 + 0).tmod 64) ≠ 49152 + ((((s.tmod 64 + Int.tmod 0 64) + 64).tmod 64 + 0).tmod 64)
  have e0 : Int.tmod 0 64 = 0 := rfl
  have e1 : Int.tmod 1 64 = 1 := rfl
  have u0 := Int.tmod_nonneg (b := 64) h
  rw [e0, e1, Int.tmod_eq_emod_of_nonneg (a := s) h]
  rw [Int.tmod_eq_emod_of_nonneg (a := s) h] at u0
  rw [Int.tmod_eq_emod_of_nonneg (a := s % 64 + 1 + 64) (by omega), Int.tmod_eq_emod_of_nonneg (a := s % 64 + 0 + 64) (by omega)]
  rw [Int.tmod_eq_emod_of_nonneg (a := (s % 64 + 1 + 64) % 64 + 0) (by omega), Int.tmod_eq_emod_of_nonneg (a := (s % 64 + 0 + 64) % 64 + 0) (by omega)]
  omega
theorem keq_i {a b : Int} (h : a ≠ b) : keq (Key.i a) (Key.i b) = false := by rw [keq_dec]; exact decide_eq_false (by simpa using h)
theorem keq_p {a b : Int} (h : a ≠ b) (k : Int) : keq (Key.p k a) (Key.p k b) = false := by rw [keq_dec]; exact decide_eq_false (by simpa using h)
theorem keq_t {a b : Int} (h : a ≠ b) (x y z u : Int) : keq (Key.t a x y) (Key.t b z u) = false := by rw [keq_dec]; exact decide_eq_false (by simp [h])
theorem uqA_obs {n i S V c b sa sb p r : Int} {q : Value} {g : Nat → Value} (h0 : 0 ≤ n) (h1 : S ≤ n + 1) (h2 : n + 1 < S + V) (h3 : n + 1 < 4000) (hS : 0 ≤ S) (hV : V < 1000) (hi : i < 3200) (hi0 : 0 ≤ i) (hc : 0 ≤ c) (hc2 : c < 1000) : okObs (uqA_L n i S V c b sa sb p r q g) := by
  have a1 : inR (n.add (oN 1)) = true := inR_t (by show _ ≤ n + 1; omega) (by show n + 1 ≤ _; omega)
  have a2 : inR (i.add (oN 1)) = true := inR_t (by show _ ≤ i + 1; omega) (by show i + 1 ≤ _; omega)
  have a3 : inR (c.add (oN 0)) = true := inR_t (by show _ ≤ c + 0; omega) (by show c + 0 ≤ _; omega)
  have a4 : (!ilt (n.add (oN 1)) S) = true := not_ilt h1
  have a5 : ilt i (oN 3200) = true := ilt_t hi
  have a6 : (!ilt (IntKind.u64.wrap (IntKind.u64.wrap (n.add (oN 1)) - IntKind.u64.wrap S)) (IntKind.u64.wrap V)) = false := by
    rw [wrap_u64, wrap_u64, wrap_u64, wrap_u64, show n.add (oN 1) = n + 1 from rfl]
    exact nnot_f (by omega)
  unfold uqA_L
  repeat' first | exact okO_nil | refine okO_cons ?_ ?_
  all_goals first | rfl | exact a1 | exact a2 | exact a3 | exact a4 | exact a5 | exact a6
theorem uqB_obs {n i S V c b sa sb p r : Int} {q : Value} {g : Nat → Value} (h0 : 0 ≤ n) (h1 : S ≤ n + 1) (h2 : n + 1 < S + V) (h3 : n + 1 < 4000) (hS : 0 ≤ S) (hV : V < 1000) (hi : i < 3200) (hi0 : 0 ≤ i) (hc : 0 ≤ c) (hc2 : c < 1000) : okObs (uqB_L n i S V c b sa sb p r q g) := by
  have a1 : inR (n.add (oN 1)) = true := inR_t (by show _ ≤ n + 1; omega) (by show n + 1 ≤ _; omega)
  have a2 : inR (i.add (oN 1)) = true := inR_t (by show _ ≤ i + 1; omega) (by show i + 1 ≤ _; omega)
  have a3 : inR (c.add (oN 0)) = true := inR_t (by show _ ≤ c + 0; omega) (by show c + 0 ≤ _; omega)
  have a4 : (!ilt (n.add (oN 1)) S) = true := not_ilt h1
  have a5 : ilt i (oN 3200) = true := ilt_t hi
  have a6 : (!ilt (IntKind.u64.wrap (IntKind.u64.wrap (n.add (oN 1)) - IntKind.u64.wrap S)) (IntKind.u64.wrap V)) = false := by
    rw [wrap_u64, wrap_u64, wrap_u64, wrap_u64, show n.add (oN 1) = n + 1 from rfl]
    exact nnot_f (by omega)
  unfold uqB_L
  repeat' first | exact okO_nil | refine okO_cons ?_ ?_
  all_goals first | rfl | exact a1 | exact a2 | exact a3 | exact a4 | exact a5 | exact a6
theorem uqA_hp (n i S V c b sa sb p r : Int) (q : Value) (g : Nat → Value) : ∀ q' : Value, (uqA_p n i S V c b sa sb p r q g).map Pl.fl = ((uA (Int.add n 1) S V c b sa sb p r q').map fun x => (x.ren fun j => ([0, 1, 2, 3, 4, 5, 6, 7, 8, 9, 10, 11, 12, 13, 14, 15, 16, 17, 18, 19, 20, 21, 22, 23, 24, 25, 26, 27, 28, 29, 30, 31, 32, 33, 34, 35, 36, 37, 38, 39, 40, 41, 42, 43, 44, 45, 46, 47, 48, 49, 50, 51, 52, 53, 147, 55] : List Nat).getD j 0).fl).set 10 (.blk [.ptr 6 0, .ptr 9 0, vN, vj (Int.add n 1), .sl 44 8 0 3, .sl 42 8 0 4] 49 : Pl Nat).fl := by
  intro q'
  simp only [uqA_p, uA, List.map_cons, List.map_nil, ringZ_fl, ringZ_ren]
  kernel_rfl
theorem uqA_step (n i S V c b sa sb p r : Int) (q : Value) (g : Nat → Value) (h0 : 0 ≤ n) (h1 : S ≤ n + 1) (h2 : n + 1 < S + V) (h3 : n + 1 < 4000) (hS : 0 ≤ S) (hV : V < 1000) (hi : i < 3200) (hi0 : 0 ≤ i) (hc : 0 ≤ c) (hc2 : c < 1000) {w0 w : World} {D : Nat → Prop} {ρ : En} (hA : At arS w0 D w ρ (uA n S V c b sa sb p r q)) {Q : Exit → Act → World → Prop} (hQ : ∀ (ρ' : En) (w' : World) (g : Nat → Value) (q : Value), (∀ j, j < 4 → ρ' j = ρ j) → At arS w0 D w' ρ' (uA (Int.add n 1) S V c b sa sb p r q) → Q .normal (actN ρ' 90 (uS (Int.add i 1) c g) []) w') : tmL.wpIn (Fe none) 0 Tryz.prog Q (actN ρ 90 (uS i c g) []) w :=
  piece (e := 10) (p1 := .blk [.ptr 6 0, .ptr 9 0, vN, vj (Int.add n 1), .sl 44 8 0 3, .sl 42 8 0 4] 49) (Qv := vN) (Mc := fun q : Value => uA (Int.add n 1) S V c b sa sb p r q) (lv := uV (Int.add i 1) c) (k0 := 56) (k := 56) entrX tblQ_ok (uqA_run n i S V c b sa sb p r q g) (uqA_obs h0 h1 h2 h3 hS hV hi hi0 hc hc2) ⟨rfl, uA_lt _ _ _ _ _ _ _ _ _ _⟩ (by decide) (lvS (uVB i c)) (ndB_ok (by kernel_rfl)) (fun j hj => by match j, hj with | 0, _ | 1, _ | 2, _ | 3, _ => rfl) (show 4 ≤ 56 by decide) (uqA_hp n i S V c b sa sb p r q g) (fun ρ => by kernel_rfl) (fun q => ⟨rfl, uA_lt _ _ _ _ _ _ _ _ _ _⟩) rfl (by first | rfl | (rw [add0]; rfl)) (lvB (uVB _ _)) hA hQ
theorem uqB_hp (n i S V c b sa sb p r : Int) (q : Value) (g : Nat → Value) : ∀ q' : Value, (uqB_p n i S V c b sa sb p r q g).map Pl.fl = ((uB (Int.add n 1) S V c b sa sb p r q').map fun x => (x.ren fun j => ([0, 1, 2, 3, 4, 5, 6, 7, 8, 9, 10, 11, 12, 13, 14, 15, 16, 17, 18, 19, 20, 21, 22, 23, 24, 25, 26, 27, 28, 29, 30, 31, 32, 33, 34, 35, 36, 37, 38, 39, 40, 41, 42, 43, 44, 45, 46, 47, 48, 49, 50, 51, 52, 53, 147, 55] : List Nat).getD j 0).fl).set 10 (.blk [.ptr 6 0, .ptr 9 0, vN, vj (Int.add n 1), .sl 44 8 0 3, .sl 42 8 0 4] 49 : Pl Nat).fl := by
  intro q'
  simp only [uqB_p, uB, List.map_cons, List.map_nil, ringZ_fl, ringZ_ren]
  kernel_rfl
theorem uqB_step (n i S V c b sa sb p r : Int) (q : Value) (g : Nat → Value) (h0 : 0 ≤ n) (h1 : S ≤ n + 1) (h2 : n + 1 < S + V) (h3 : n + 1 < 4000) (hS : 0 ≤ S) (hV : V < 1000) (hi : i < 3200) (hi0 : 0 ≤ i) (hc : 0 ≤ c) (hc2 : c < 1000) {w0 w : World} {D : Nat → Prop} {ρ : En} (hA : At arS w0 D w ρ (uB n S V c b sa sb p r q)) {Q : Exit → Act → World → Prop} (hQ : ∀ (ρ' : En) (w' : World) (g : Nat → Value) (q : Value), (∀ j, j < 4 → ρ' j = ρ j) → At arS w0 D w' ρ' (uB (Int.add n 1) S V c b sa sb p r q) → Q .normal (actN ρ' 90 (uS (Int.add i 1) c g) []) w') : tmL.wpIn (Fe none) 0 Tryz.prog Q (actN ρ 90 (uS i c g) []) w :=
  piece (e := 10) (p1 := .blk [.ptr 6 0, .ptr 9 0, vN, vj (Int.add n 1), .sl 44 8 0 3, .sl 42 8 0 4] 49) (Qv := vN) (Mc := fun q : Value => uB (Int.add n 1) S V c b sa sb p r q) (lv := uV (Int.add i 1) c) (k0 := 56) (k := 56) entrX tblQ_ok (uqB_run n i S V c b sa sb p r q g) (uqB_obs h0 h1 h2 h3 hS hV hi hi0 hc hc2) ⟨rfl, uB_lt _ _ _ _ _ _ _ _ _ _⟩ (by decide) (lvS (uVB i c)) (ndB_ok (by kernel_rfl)) (fun j hj => by match j, hj with | 0, _ | 1, _ | 2, _ | 3, _ => rfl) (show 4 ≤ 56 by decide) (uqB_hp n i S V c b sa sb p r q g) (fun ρ => by kernel_rfl) (fun q => ⟨rfl, uB_lt _ _ _ _ _ _ _ _ _ _⟩) rfl (by first | rfl | (rw [add0]; rfl)) (lvB (uVB _ _)) hA hQ
theorem us0_obs {sa sb p r : Int} {q : Value} {g : Nat → Value} (p1 : 49152 ≤ p) (p2 : p ≤ 49215) (r1 : 49152 ≤ r) (r2 : r ≤ 49215) (hr : r ≠ p) : okObs (us0_L sa sb p r q g) := by
  unfold us0_L
  (repeat' first | exact okO_nil | refine okO_cons ?_ ?_) <;> first | rfl | exact p_n1 p1 | exact p_n2 p2 | exact p_n3 p2 | exact p_n1 r1 | exact p_n2 r2 | exact p_n3 r2 | exact p_n4 | exact ieq_t rfl | exact keq_refl _ | exact keq_i hr | exact keq_p hr _ | exact keq_t hr _ _ _ _ | (simp only [p_n1 p1, p_n2 p2, p_n1 r1, p_n2 r2, Bool.and_true, Bool.true_and])
theorem us0_hp (sa sb p r : Int) (q : Value) (g : Nat → Value) : ∀ q' : Value, (us0_p sa sb p r q g).map Pl.fl = ((uB (15) (15) (24) (1) (1) sa sb p r q').map fun x => (x.ren fun j => ([0, 1, 2, 3, 4, 5, 6, 7, 8, 9, 10, 11, 12, 13, 14, 15, 16, 17, 18, 19, 20, 21, 22, 23, 24, 25, 26, 27, 28, 29, 30, 31, 32, 33, 34, 35, 36, 37, 38, 39, 40, 41, 42, 43, 44, 45, 46, 47, 48, 49, 50, 51, 52, 53, 157, 55] : List Nat).getD j 0).fl).set 10 (.blk [.ptr 6 0, .ptr 9 0, .sl 263 9 0 1, vj (15), .sl 44 8 0 3, .sl 42 8 0 4] 49 : Pl Nat).fl := by
  intro q'
  simp only [us0_p, uB, List.map_cons, List.map_nil, ringZ_fl, ringZ_ren]
  kernel_rfl
theorem us0_step (sa sb p r : Int) (q : Value) (g : Nat → Value) (p1 : 49152 ≤ p) (p2 : p ≤ 49215) (r1 : 49152 ≤ r) (r2 : r ≤ 49215) (hr : r ≠ p) {w0 w : World} {D : Nat → Prop} {ρ : En} (hA : At arS w0 D w ρ (uA (14) (3) (12) (0) (0) sa sb p r q)) {Q : Exit → Act → World → Prop} (hQ : ∀ (ρ' : En) (w' : World) (g : Nat → Value) (q : Value), (∀ j, j < 4 → ρ' j = ρ j) → At arS w0 D w' ρ' (uB (15) (15) (24) (1) (1) sa sb p r q) → Q .normal (actN ρ' 90 (uS 12 1 g) []) w') : tmL.wpIn (Fe none) 0 Tryz.prog Q (actN ρ 90 (uS (11) (0) g) []) w :=
  piece (e := 10) (p1 := .blk [.ptr 6 0, .ptr 9 0, .sl 263 9 0 1, vj (15), .sl 44 8 0 3, .sl 42 8 0 4] 49) (Qv := .sl 263 9 0 1) (Mc := fun q : Value => uB (15) (15) (24) (1) (1) sa sb p r q) (lv := uV 12 1) (k0 := 56) (k := 56) entrX tblQ_ok (us0_run sa sb p r q g) (us0_obs p1 p2 r1 r2 hr) ⟨rfl, uA_lt _ _ _ _ _ _ _ _ _ _⟩ (by decide) (lvS (uVB (11) (0))) (ndB_ok (by kernel_rfl)) (fun j hj => by match j, hj with | 0, _ | 1, _ | 2, _ | 3, _ => rfl) (show 4 ≤ 56 by decide) (us0_hp sa sb p r q g) (fun ρ => by kernel_rfl) (fun q => ⟨rfl, uB_lt _ _ _ _ _ _ _ _ _ _⟩) rfl (by first | rfl | (rw [add0]; rfl)) (lvB (uVB _ _)) hA hQ
theorem usX_obs {sa sb p r : Int} {q : Value} {g : Nat → Value} (p1 : 49152 ≤ p) (p2 : p ≤ 49215) (r1 : 49152 ≤ r) (r2 : r ≤ 49215) (hr : r ≠ p) : okObs (usX_L sa sb p r q g) := by
  unfold usX_L
  (repeat' first | exact okO_nil | refine okO_cons ?_ ?_) <;> first | rfl | exact p_n1 p1 | exact p_n2 p2 | exact p_n3 p2 | exact p_n1 r1 | exact p_n2 r2 | exact p_n3 r2 | exact p_n4 | exact ieq_t rfl | exact keq_refl _ | exact keq_i hr | exact keq_p hr _ | exact keq_t hr _ _ _ _ | (simp only [p_n1 p1, p_n2 p2, p_n1 r1, p_n2 r2, Bool.and_true, Bool.true_and])
theorem usX_hp (n S V c b sa sb p r : Int) : ∀ q' : Value, (usX_p n S V c b sa sb p r).map Pl.fl = ((uB n S V c b sa sb p r q').map fun x => (x.ren fun j => ([0, 1, 2, 3, 4, 5, 6, 7, 8, 9, 10, 11, 12, 13, 14, 15, 16, 17, 18, 19, 20, 21, 22, 23, 24, 25, 26, 27, 28, 29, 30, 31, 32, 33, 34, 35, 36, 37, 38, 39, 40, 41, 42, 43, 44, 45, 46, 47, 48, 49, 50, 51, 52, 53, 157, 55] : List Nat).getD j 0).fl).set 10 (.blk [.ptr 6 0, .ptr 9 0, .sl 263 9 0 1, vj (n), .sl 44 8 0 3, .sl 42 8 0 4] 49 : Pl Nat).fl := by
  intro q'
  simp only [usX_p, uB, List.map_cons, List.map_nil, ringZ_fl, ringZ_ren]
  kernel_rfl
theorem us1_step (sa sb p r : Int) (q : Value) (g : Nat → Value) (p1 : 49152 ≤ p) (p2 : p ≤ 49215) (r1 : 49152 ≤ r) (r2 : r ≤ 49215) (hr : r ≠ p) {w0 w : World} {D : Nat → Prop} {ρ : En} (hA : At arS w0 D w ρ (uB (38) (15) (24) (1) (1) sa sb p r q)) {Q : Exit → Act → World → Prop} (hQ : ∀ (ρ' : En) (w' : World) (g : Nat → Value) (q : Value), (∀ j, j < 4 → ρ' j = ρ j) → At arS w0 D w' ρ' (uB (39) (39) (48) (2) (2) sa sb p r q) → Q .normal (actN ρ' 90 (uS 36 2 g) []) w') : tmL.wpIn (Fe none) 0 Tryz.prog Q (actN ρ 90 (uS (35) (1) g) []) w :=
  piece (e := 10) (p1 := .blk [.ptr 6 0, .ptr 9 0, .sl 263 9 0 1, vj (39), .sl 44 8 0 3, .sl 42 8 0 4] 49) (Qv := .sl 263 9 0 1) (Mc := fun q : Value => uB (39) (39) (48) (2) (2) sa sb p r q) (lv := uV 36 2) (k0 := 56) (k := 56) entrX tblQ_ok (us1_run sa sb p r q g) (usX_obs p1 p2 r1 r2 hr) ⟨rfl, uB_lt _ _ _ _ _ _ _ _ _ _⟩ (by decide) (lvS (uVB (35) (1))) (ndB_ok (by kernel_rfl)) (fun j hj => by match j, hj with | 0, _ | 1, _ | 2, _ | 3, _ => rfl) (show 4 ≤ 56 by decide) (usX_hp _ _ _ _ _ _ _ _ _) (fun ρ => by kernel_rfl) (fun q => ⟨rfl, uB_lt _ _ _ _ _ _ _ _ _ _⟩) rfl (by first | rfl | (rw [add0]; rfl)) (lvB (uVB _ _)) hA hQ
theorem us2_step (sa sb p r : Int) (q : Value) (g : Nat → Value) (p1 : 49152 ≤ p) (p2 : p ≤ 49215) (r1 : 49152 ≤ r) (r2 : r ≤ 49215) (hr : r ≠ p) {w0 w : World} {D : Nat → Prop} {ρ : En} (hA : At arS w0 D w ρ (uB (86) (39) (48) (2) (2) sa sb p r q)) {Q : Exit → Act → World → Prop} (hQ : ∀ (ρ' : En) (w' : World) (g : Nat → Value) (q : Value), (∀ j, j < 4 → ρ' j = ρ j) → At arS w0 D w' ρ' (uB (87) (87) (96) (3) (3) sa sb p r q) → Q .normal (actN ρ' 90 (uS 84 3 g) []) w') : tmL.wpIn (Fe none) 0 Tryz.prog Q (actN ρ 90 (uS (83) (2) g) []) w :=
  piece (e := 10) (p1 := .blk [.ptr 6 0, .ptr 9 0, .sl 263 9 0 1, vj (87), .sl 44 8 0 3, .sl 42 8 0 4] 49) (Qv := .sl 263 9 0 1) (Mc := fun q : Value => uB (87) (87) (96) (3) (3) sa sb p r q) (lv := uV 84 3) (k0 := 56) (k := 56) entrX tblQ_ok (us2_run sa sb p r q g) (usX_obs p1 p2 r1 r2 hr) ⟨rfl, uB_lt _ _ _ _ _ _ _ _ _ _⟩ (by decide) (lvS (uVB (83) (2))) (ndB_ok (by kernel_rfl)) (fun j hj => by match j, hj with | 0, _ | 1, _ | 2, _ | 3, _ => rfl) (show 4 ≤ 56 by decide) (usX_hp _ _ _ _ _ _ _ _ _) (fun ρ => by kernel_rfl) (fun q => ⟨rfl, uB_lt _ _ _ _ _ _ _ _ _ _⟩) rfl (by first | rfl | (rw [add0]; rfl)) (lvB (uVB _ _)) hA hQ
theorem us3_step (sa sb p r : Int) (q : Value) (g : Nat → Value) (p1 : 49152 ≤ p) (p2 : p ≤ 49215) (r1 : 49152 ≤ r) (r2 : r ≤ 49215) (hr : r ≠ p) {w0 w : World} {D : Nat → Prop} {ρ : En} (hA : At arS w0 D w ρ (uB (182) (87) (96) (3) (3) sa sb p r q)) {Q : Exit → Act → World → Prop} (hQ : ∀ (ρ' : En) (w' : World) (g : Nat → Value) (q : Value), (∀ j, j < 4 → ρ' j = ρ j) → At arS w0 D w' ρ' (uB (183) (183) (192) (4) (4) sa sb p r q) → Q .normal (actN ρ' 90 (uS 180 4 g) []) w') : tmL.wpIn (Fe none) 0 Tryz.prog Q (actN ρ 90 (uS (179) (3) g) []) w :=
  piece (e := 10) (p1 := .blk [.ptr 6 0, .ptr 9 0, .sl 263 9 0 1, vj (183), .sl 44 8 0 3, .sl 42 8 0 4] 49) (Qv := .sl 263 9 0 1) (Mc := fun q : Value => uB (183) (183) (192) (4) (4) sa sb p r q) (lv := uV 180 4) (k0 := 56) (k := 56) entrX tblQ_ok (us3_run sa sb p r q g) (usX_obs p1 p2 r1 r2 hr) ⟨rfl, uB_lt _ _ _ _ _ _ _ _ _ _⟩ (by decide) (lvS (uVB (179) (3))) (ndB_ok (by kernel_rfl)) (fun j hj => by match j, hj with | 0, _ | 1, _ | 2, _ | 3, _ => rfl) (show 4 ≤ 56 by decide) (usX_hp _ _ _ _ _ _ _ _ _) (fun ρ => by kernel_rfl) (fun q => ⟨rfl, uB_lt _ _ _ _ _ _ _ _ _ _⟩) rfl (by first | rfl | (rw [add0]; rfl)) (lvB (uVB _ _)) hA hQ
theorem us4_step (sa sb p r : Int) (q : Value) (g : Nat → Value) (p1 : 49152 ≤ p) (p2 : p ≤ 49215) (r1 : 49152 ≤ r) (r2 : r ≤ 49215) (hr : r ≠ p) {w0 w : World} {D : Nat → Prop} {ρ : En} (hA : At arS w0 D w ρ (uB (374) (183) (192) (4) (4) sa sb p r q)) {Q : Exit → Act → World → Prop} (hQ : ∀ (ρ' : En) (w' : World) (g : Nat → Value) (q : Value), (∀ j, j < 4 → ρ' j = ρ j) → At arS w0 D w' ρ' (uB (375) (375) (240) (5) (5) sa sb p r q) → Q .normal (actN ρ' 90 (uS 372 5 g) []) w') : tmL.wpIn (Fe none) 0 Tryz.prog Q (actN ρ 90 (uS (371) (4) g) []) w :=
  piece (e := 10) (p1 := .blk [.ptr 6 0, .ptr 9 0, .sl 263 9 0 1, vj (375), .sl 44 8 0 3, .sl 42 8 0 4] 49) (Qv := .sl 263 9 0 1) (Mc := fun q : Value => uB (375) (375) (240) (5) (5) sa sb p r q) (lv := uV 372 5) (k0 := 56) (k := 56) entrX tblQ_ok (us4_run sa sb p r q g) (usX_obs p1 p2 r1 r2 hr) ⟨rfl, uB_lt _ _ _ _ _ _ _ _ _ _⟩ (by decide) (lvS (uVB (371) (4))) (ndB_ok (by kernel_rfl)) (fun j hj => by match j, hj with | 0, _ | 1, _ | 2, _ | 3, _ => rfl) (show 4 ≤ 56 by decide) (usX_hp _ _ _ _ _ _ _ _ _) (fun ρ => by kernel_rfl) (fun q => ⟨rfl, uB_lt _ _ _ _ _ _ _ _ _ _⟩) rfl (by first | rfl | (rw [add0]; rfl)) (lvB (uVB _ _)) hA hQ
theorem us5_step (sa sb p r : Int) (q : Value) (g : Nat → Value) (p1 : 49152 ≤ p) (p2 : p ≤ 49215) (r1 : 49152 ≤ r) (r2 : r ≤ 49215) (hr : r ≠ p) {w0 w : World} {D : Nat → Prop} {ρ : En} (hA : At arS w0 D w ρ (uB (614) (375) (240) (5) (5) sa sb p r q)) {Q : Exit → Act → World → Prop} (hQ : ∀ (ρ' : En) (w' : World) (g : Nat → Value) (q : Value), (∀ j, j < 4 → ρ' j = ρ j) → At arS w0 D w' ρ' (uB (615) (615) (240) (6) (6) sa sb p r q) → Q .normal (actN ρ' 90 (uS 612 6 g) []) w') : tmL.wpIn (Fe none) 0 Tryz.prog Q (actN ρ 90 (uS (611) (5) g) []) w :=
  piece (e := 10) (p1 := .blk [.ptr 6 0, .ptr 9 0, .sl 263 9 0 1, vj (615), .sl 44 8 0 3, .sl 42 8 0 4] 49) (Qv := .sl 263 9 0 1) (Mc := fun q : Value => uB (615) (615) (240) (6) (6) sa sb p r q) (lv := uV 612 6) (k0 := 56) (k := 56) entrX tblQ_ok (us5_run sa sb p r q g) (usX_obs p1 p2 r1 r2 hr) ⟨rfl, uB_lt _ _ _ _ _ _ _ _ _ _⟩ (by decide) (lvS (uVB (611) (5))) (ndB_ok (by kernel_rfl)) (fun j hj => by match j, hj with | 0, _ | 1, _ | 2, _ | 3, _ => rfl) (show 4 ≤ 56 by decide) (usX_hp _ _ _ _ _ _ _ _ _) (fun ρ => by kernel_rfl) (fun q => ⟨rfl, uB_lt _ _ _ _ _ _ _ _ _ _⟩) rfl (by first | rfl | (rw [add0]; rfl)) (lvB (uVB _ _)) hA hQ
theorem us6_step (sa sb p r : Int) (q : Value) (g : Nat → Value) (p1 : 49152 ≤ p) (p2 : p ≤ 49215) (r1 : 49152 ≤ r) (r2 : r ≤ 49215) (hr : r ≠ p) {w0 w : World} {D : Nat → Prop} {ρ : En} (hA : At arS w0 D w ρ (uB (854) (615) (240) (6) (6) sa sb p r q)) {Q : Exit → Act → World → Prop} (hQ : ∀ (ρ' : En) (w' : World) (g : Nat → Value) (q : Value), (∀ j, j < 4 → ρ' j = ρ j) → At arS w0 D w' ρ' (uB (855) (855) (240) (7) (7) sa sb p r q) → Q .normal (actN ρ' 90 (uS 852 7 g) []) w') : tmL.wpIn (Fe none) 0 Tryz.prog Q (actN ρ 90 (uS (851) (6) g) []) w :=
  piece (e := 10) (p1 := .blk [.ptr 6 0, .ptr 9 0, .sl 263 9 0 1, vj (855), .sl 44 8 0 3, .sl 42 8 0 4] 49) (Qv := .sl 263 9 0 1) (Mc := fun q : Value => uB (855) (855) (240) (7) (7) sa sb p r q) (lv := uV 852 7) (k0 := 56) (k := 56) entrX tblQ_ok (us6_run sa sb p r q g) (usX_obs p1 p2 r1 r2 hr) ⟨rfl, uB_lt _ _ _ _ _ _ _ _ _ _⟩ (by decide) (lvS (uVB (851) (6))) (ndB_ok (by kernel_rfl)) (fun j hj => by match j, hj with | 0, _ | 1, _ | 2, _ | 3, _ => rfl) (show 4 ≤ 56 by decide) (usX_hp _ _ _ _ _ _ _ _ _) (fun ρ => by kernel_rfl) (fun q => ⟨rfl, uB_lt _ _ _ _ _ _ _ _ _ _⟩) rfl (by first | rfl | (rw [add0]; rfl)) (lvB (uVB _ _)) hA hQ
theorem us7_step (sa sb p r : Int) (q : Value) (g : Nat → Value) (p1 : 49152 ≤ p) (p2 : p ≤ 49215) (r1 : 49152 ≤ r) (r2 : r ≤ 49215) (hr : r ≠ p) {w0 w : World} {D : Nat → Prop} {ρ : En} (hA : At arS w0 D w ρ (uB (1094) (855) (240) (7) (7) sa sb p r q)) {Q : Exit → Act → World → Prop} (hQ : ∀ (ρ' : En) (w' : World) (g : Nat → Value) (q : Value), (∀ j, j < 4 → ρ' j = ρ j) → At arS w0 D w' ρ' (uB (1095) (1095) (240) (8) (8) sa sb p r q) → Q .normal (actN ρ' 90 (uS 1092 8 g) []) w') : tmL.wpIn (Fe none) 0 Tryz.prog Q (actN ρ 90 (uS (1091) (7) g) []) w :=
  piece (e := 10) (p1 := .blk [.ptr 6 0, .ptr 9 0, .sl 263 9 0 1, vj (1095), .sl 44 8 0 3, .sl 42 8 0 4] 49) (Qv := .sl 263 9 0 1) (Mc := fun q : Value => uB (1095) (1095) (240) (8) (8) sa sb p r q) (lv := uV 1092 8) (k0 := 56) (k := 56) entrX tblQ_ok (us7_run sa sb p r q g) (usX_obs p1 p2 r1 r2 hr) ⟨rfl, uB_lt _ _ _ _ _ _ _ _ _ _⟩ (by decide) (lvS (uVB (1091) (7))) (ndB_ok (by kernel_rfl)) (fun j hj => by match j, hj with | 0, _ | 1, _ | 2, _ | 3, _ => rfl) (show 4 ≤ 56 by decide) (usX_hp _ _ _ _ _ _ _ _ _) (fun ρ => by kernel_rfl) (fun q => ⟨rfl, uB_lt _ _ _ _ _ _ _ _ _ _⟩) rfl (by first | rfl | (rw [add0]; rfl)) (lvB (uVB _ _)) hA hQ
theorem us8_step (sa sb p r : Int) (q : Value) (g : Nat → Value) (p1 : 49152 ≤ p) (p2 : p ≤ 49215) (r1 : 49152 ≤ r) (r2 : r ≤ 49215) (hr : r ≠ p) {w0 w : World} {D : Nat → Prop} {ρ : En} (hA : At arS w0 D w ρ (uB (1334) (1095) (240) (8) (8) sa sb p r q)) {Q : Exit → Act → World → Prop} (hQ : ∀ (ρ' : En) (w' : World) (g : Nat → Value) (q : Value), (∀ j, j < 4 → ρ' j = ρ j) → At arS w0 D w' ρ' (uB (1335) (1335) (240) (9) (8) sa sb p r q) → Q .normal (actN ρ' 90 (uS 1332 9 g) []) w') : tmL.wpIn (Fe none) 0 Tryz.prog Q (actN ρ 90 (uS (1331) (8) g) []) w :=
  piece (e := 10) (p1 := .blk [.ptr 6 0, .ptr 9 0, .sl 263 9 0 1, vj (1335), .sl 44 8 0 3, .sl 42 8 0 4] 49) (Qv := .sl 263 9 0 1) (Mc := fun q : Value => uB (1335) (1335) (240) (9) (8) sa sb p r q) (lv := uV 1332 9) (k0 := 56) (k := 56) entrX tblQ_ok (us8_run sa sb p r q g) (usX_obs p1 p2 r1 r2 hr) ⟨rfl, uB_lt _ _ _ _ _ _ _ _ _ _⟩ (by decide) (lvS (uVB (1331) (8))) (ndB_ok (by kernel_rfl)) (fun j hj => by match j, hj with | 0, _ | 1, _ | 2, _ | 3, _ => rfl) (show 4 ≤ 56 by decide) (usX_hp _ _ _ _ _ _ _ _ _) (fun ρ => by kernel_rfl) (fun q => ⟨rfl, uB_lt _ _ _ _ _ _ _ _ _ _⟩) rfl (by first | rfl | (rw [add0]; rfl)) (lvB (uVB _ _)) hA hQ
theorem us9_step (sa sb p r : Int) (q : Value) (g : Nat → Value) (p1 : 49152 ≤ p) (p2 : p ≤ 49215) (r1 : 49152 ≤ r) (r2 : r ≤ 49215) (hr : r ≠ p) {w0 w : World} {D : Nat → Prop} {ρ : En} (hA : At arS w0 D w ρ (uB (1574) (1335) (240) (9) (8) sa sb p r q)) {Q : Exit → Act → World → Prop} (hQ : ∀ (ρ' : En) (w' : World) (g : Nat → Value) (q : Value), (∀ j, j < 4 → ρ' j = ρ j) → At arS w0 D w' ρ' (uB (1575) (1575) (240) (10) (8) sa sb p r q) → Q .normal (actN ρ' 90 (uS 1572 10 g) []) w') : tmL.wpIn (Fe none) 0 Tryz.prog Q (actN ρ 90 (uS (1571) (9) g) []) w :=
  piece (e := 10) (p1 := .blk [.ptr 6 0, .ptr 9 0, .sl 263 9 0 1, vj (1575), .sl 44 8 0 3, .sl 42 8 0 4] 49) (Qv := .sl 263 9 0 1) (Mc := fun q : Value => uB (1575) (1575) (240) (10) (8) sa sb p r q) (lv := uV 1572 10) (k0 := 56) (k := 56) entrX tblQ_ok (us9_run sa sb p r q g) (usX_obs p1 p2 r1 r2 hr) ⟨rfl, uB_lt _ _ _ _ _ _ _ _ _ _⟩ (by decide) (lvS (uVB (1571) (9))) (ndB_ok (by kernel_rfl)) (fun j hj => by match j, hj with | 0, _ | 1, _ | 2, _ | 3, _ => rfl) (show 4 ≤ 56 by decide) (usX_hp _ _ _ _ _ _ _ _ _) (fun ρ => by kernel_rfl) (fun q => ⟨rfl, uB_lt _ _ _ _ _ _ _ _ _ _⟩) rfl (by first | rfl | (rw [add0]; rfl)) (lvB (uVB _ _)) hA hQ
theorem us10_step (sa sb p r : Int) (q : Value) (g : Nat → Value) (p1 : 49152 ≤ p) (p2 : p ≤ 49215) (r1 : 49152 ≤ r) (r2 : r ≤ 49215) (hr : r ≠ p) {w0 w : World} {D : Nat → Prop} {ρ : En} (hA : At arS w0 D w ρ (uB (1814) (1575) (240) (10) (8) sa sb p r q)) {Q : Exit → Act → World → Prop} (hQ : ∀ (ρ' : En) (w' : World) (g : Nat → Value) (q : Value), (∀ j, j < 4 → ρ' j = ρ j) → At arS w0 D w' ρ' (uB (1815) (1815) (240) (11) (8) sa sb p r q) → Q .normal (actN ρ' 90 (uS 1812 11 g) []) w') : tmL.wpIn (Fe none) 0 Tryz.prog Q (actN ρ 90 (uS (1811) (10) g) []) w :=
  piece (e := 10) (p1 := .blk [.ptr 6 0, .ptr 9 0, .sl 263 9 0 1, vj (1815), .sl 44 8 0 3, .sl 42 8 0 4] 49) (Qv := .sl 263 9 0 1) (Mc := fun q : Value => uB (1815) (1815) (240) (11) (8) sa sb p r q) (lv := uV 1812 11) (k0 := 56) (k := 56) entrX tblQ_ok (us10_run sa sb p r q g) (usX_obs p1 p2 r1 r2 hr) ⟨rfl, uB_lt _ _ _ _ _ _ _ _ _ _⟩ (by decide) (lvS (uVB (1811) (10))) (ndB_ok (by kernel_rfl)) (fun j hj => by match j, hj with | 0, _ | 1, _ | 2, _ | 3, _ => rfl) (show 4 ≤ 56 by decide) (usX_hp _ _ _ _ _ _ _ _ _) (fun ρ => by kernel_rfl) (fun q => ⟨rfl, uB_lt _ _ _ _ _ _ _ _ _ _⟩) rfl (by first | rfl | (rw [add0]; rfl)) (lvB (uVB _ _)) hA hQ
theorem us11_step (sa sb p r : Int) (q : Value) (g : Nat → Value) (p1 : 49152 ≤ p) (p2 : p ≤ 49215) (r1 : 49152 ≤ r) (r2 : r ≤ 49215) (hr : r ≠ p) {w0 w : World} {D : Nat → Prop} {ρ : En} (hA : At arS w0 D w ρ (uB (2054) (1815) (240) (11) (8) sa sb p r q)) {Q : Exit → Act → World → Prop} (hQ : ∀ (ρ' : En) (w' : World) (g : Nat → Value) (q : Value), (∀ j, j < 4 → ρ' j = ρ j) → At arS w0 D w' ρ' (uB (2055) (2055) (240) (12) (8) sa sb p r q) → Q .normal (actN ρ' 90 (uS 2052 12 g) []) w') : tmL.wpIn (Fe none) 0 Tryz.prog Q (actN ρ 90 (uS (2051) (11) g) []) w :=
  piece (e := 10) (p1 := .blk [.ptr 6 0, .ptr 9 0, .sl 263 9 0 1, vj (2055), .sl 44 8 0 3, .sl 42 8 0 4] 49) (Qv := .sl 263 9 0 1) (Mc := fun q : Value => uB (2055) (2055) (240) (12) (8) sa sb p r q) (lv := uV 2052 12) (k0 := 56) (k := 56) entrX tblQ_ok (us11_run sa sb p r q g) (usX_obs p1 p2 r1 r2 hr) ⟨rfl, uB_lt _ _ _ _ _ _ _ _ _ _⟩ (by decide) (lvS (uVB (2051) (11))) (ndB_ok (by kernel_rfl)) (fun j hj => by match j, hj with | 0, _ | 1, _ | 2, _ | 3, _ => rfl) (show 4 ≤ 56 by decide) (usX_hp _ _ _ _ _ _ _ _ _) (fun ρ => by kernel_rfl) (fun q => ⟨rfl, uB_lt _ _ _ _ _ _ _ _ _ _⟩) rfl (by first | rfl | (rw [add0]; rfl)) (lvB (uVB _ _)) hA hQ
theorem ufB_obs {sa sb p r : Int} {q : Value} {g : Nat → Value} (p1 : 49152 ≤ p) (p2 : p ≤ 49215) (r1 : 49152 ≤ r) (r2 : r ≤ 49215) (hr : r ≠ p) : okObs (ufB_L sa sb p r q g) := by
  unfold ufB_L
  (repeat' first | exact okO_nil | refine okO_cons ?_ ?_) <;> first | rfl | exact p_n1 p1 | exact p_n2 p2 | exact p_n3 p2 | exact p_n1 r1 | exact p_n2 r2 | exact p_n3 r2 | exact p_n4 | exact ieq_t rfl | exact keq_refl _ | exact keq_i hr | exact keq_p hr _ | exact keq_t hr _ _ _ _ | (simp only [p_n1 p1, p_n2 p2, p_n1 r1, p_n2 r2, Bool.and_true, Bool.true_and])
theorem ufB_hp (sa sb p r : Int) (q : Value) (g : Nat → Value) : ∀ q' : Value, (ufB_p sa sb p r q g).map Pl.fl = ((toF).map fun x => (x.ren fun j => ([0, 1, 2, 3, 55] : List Nat).getD j 0).fl).set 3 ((MS.getD 3 .none) : Pl Nat).fl := by
  intro q'
  simp only [ufB_p, toF, List.map_cons, List.map_nil, ringZ_fl, ringZ_ren]
  kernel_rfl
theorem ufB_step (sa sb p r : Int) (q : Value) (g : Nat → Value) (p1 : 49152 ≤ p) (p2 : p ≤ 49215) (r1 : 49152 ≤ r) (r2 : r ≤ 49215) (hr : r ≠ p) {w0 w : World} {D : Nat → Prop} {ρ : En} (hA : At arS w0 D w ρ (uB (2294) (2055) (240) (12) (8) sa sb p r q)) {Q : Exit → Act → World → Prop} (hQ : ∀ (ρ' : En) (w' : World) (g : Nat → Value) (q : Value), (∀ j, j < 4 → ρ' j = ρ j) → At arS w0 D w' ρ' (toF) → Q .normal (actN ρ' 90 (uFS g) []) w') : tmL.wpIn (Fe none) 0 Tryz.prog Q (actN ρ 90 (uS (2291) (12) g) []) w :=
  piece (e := 3) (p1 := (MS.getD 3 .none)) (Qv := .lit undef) (Mc := fun q : Value => toF) (lv := uFV) (k0 := 56) (k := 5) entrY tblQ_ok (ufB_run sa sb p r q g) (ufB_obs p1 p2 r1 r2 hr) ⟨rfl, uB_lt _ _ _ _ _ _ _ _ _ _⟩ (by decide) (lvS (uVB (2291) (12))) (ndB_ok (by kernel_rfl)) (fun j hj => by match j, hj with | 0, _ | 1, _ | 2, _ | 3, _ => rfl) (show 4 ≤ 56 by decide) (ufB_hp sa sb p r q g) (fun ρ => by kernel_rfl) (fun q => ⟨rfl, toF_lt⟩) rfl (by first | rfl | (rw [add0]; rfl)) (lvB uFVB) hA hQ
theorem uxF_obs {g : Nat → Value} : okObs (uxF_L g) := by
  unfold uxF_L
  (repeat' first | exact okO_nil | refine okO_cons ?_ ?_) <;> rfl
theorem uxF_hp (g : Nat → Value) : ∀ q' : Value, (uxF_p g).map Pl.fl = ((toF).map fun x => (x.ren fun j => ([0, 1, 2, 3, 4] : List Nat).getD j 0).fl).set 3 ((MS.getD 3 .none) : Pl Nat).fl := by
  intro q'
  simp only [uxF_p, toF, List.map_cons, List.map_nil, ringZ_fl, ringZ_ren]
  kernel_rfl
theorem uxF_step (g : Nat → Value)  {w0 w : World} {D : Nat → Prop} {ρ : En} (hA : At arS w0 D w ρ (toF)) {Q : Exit → Act → World → Prop} (hQ : ∀ (ρ' : En) (w' : World) (g : Nat → Value) (q : Value), (∀ j, j < 4 → ρ' j = ρ j) → At arS w0 D w' ρ' (toF) → Q (.exit 0) (actN ρ' 90 (uFS g) []) w') : tmL.wpIn (Fe none) 0 Tryz.prog Q (actN ρ 90 (uFS g) []) w :=
  piece (e := 3) (p1 := (MS.getD 3 .none)) (Qv := .lit undef) (Mc := fun q : Value => toF) (lv := uFV) (k0 := 5) (k := 5) entrX tblQ_ok (uxF_run g) (uxF_obs) ⟨rfl, toF_lt⟩ (by decide) (lvS uFVB) (ndB_ok (by kernel_rfl)) (fun j hj => by match j, hj with | 0, _ | 1, _ | 2, _ | 3, _ => rfl) (show 4 ≤ 5 by decide) (uxF_hp g) (fun ρ => by kernel_rfl) (fun q => ⟨rfl, toF_lt⟩) rfl (by first | rfl | (rw [add0]; rfl)) (lvB uFVB) hA hQ
theorem uzF_obs {g : Nat → Value} : okObs (uzF_L g) := by
  unfold uzF_L
  (repeat' first | exact okO_nil | refine okO_cons ?_ ?_) <;> rfl
theorem uzF_hp (g : Nat → Value) : ∀ q' : Value, (uzF_p g).map Pl.fl = ((MS).map fun x => (x.ren fun j => ([0, 1, 2, 3] : List Nat).getD j 0).fl).set 3 ((MS.getD 3 .none) : Pl Nat).fl := by
  intro q'
  simp only [uzF_p, List.map_cons, List.map_cons, List.map_nil, ringZ_fl, ringZ_ren]
  kernel_rfl
theorem uzF_step (g : Nat → Value)  {w0 w : World} {D : Nat → Prop} {ρ : En} (hA : At arS w0 D w ρ (toF)) {Q : Exit → Act → World → Prop} (hQ : ∀ (ρ' : En) (w' : World) (g : Nat → Value) (q : Value), (∀ j, j < 4 → ρ' j = ρ j) → At arS w0 D w' ρ' (MS) → Q .ret (actN ρ' 90 (mkF 90 0 (slC 90 g [(6, .bool true true)]) .z) []) w') : tmZ.wpIn (Fe none) 0 Tryz.prog Q (actN ρ 90 (uFS g) []) w :=
  piece (e := 3) (p1 := (MS.getD 3 .none)) (Qv := .lit undef) (Mc := fun q : Value => MS) (lv := [(6, .bool true true)]) (k0 := 5) (k := 4) entrX tblQ_ok (uzF_run g) (uzF_obs) ⟨rfl, toF_lt⟩ (by decide) (lvS uFVB) (ndB_ok (by kernel_rfl)) (fun j hj => by match j, hj with | 0, _ | 1, _ | 2, _ | 3, _ => rfl) (show 4 ≤ 5 by decide) (uzF_hp g) (fun ρ => by kernel_rfl) (fun q => ⟨rfl, MS_lt⟩) rfl (by first | rfl | (rw [add0]; rfl)) (lvB (by kernel_rfl)) hA hQ
theorem uiA_obs {sa sb p r : Int} {q : Value} {g : Nat → Value} : okObs (uiA_L sa sb p r q g) := okO_nil
theorem uiA_hp (sa sb p r : Int) (q : Value) (g : Nat → Value) : ∀ q' : Value, (uiA_p sa sb p r q g).map Pl.fl = ((uA 3 3 12 0 0 sa sb p r q').map fun x => (x.ren fun j => ([0, 1, 2, 3, 4, 5, 6, 7, 8, 9, 10, 11, 12, 13, 14, 15, 16, 17, 18, 19, 20, 21, 22, 23, 24, 25, 26, 27, 28, 29, 30, 31, 32, 33, 34, 35, 36, 37, 38, 39, 40, 41, 42, 43, 44, 45, 46, 47, 48, 49, 50, 51, 52, 53, 54, 55] : List Nat).getD j 0).fl).set 10 (.blk [.ptr 6 0, .ptr 9 0, .lit q, vj (3), .sl 44 8 0 3, .sl 42 8 0 4] 49 : Pl Nat).fl := by
  intro q'
  simp only [uiA_p, uA, List.map_cons, List.map_nil, ringZ_fl, ringZ_ren]
  kernel_rfl
theorem uiA_step (sa sb p r : Int) (q : Value) (g : Nat → Value)  {w0 w : World} {D : Nat → Prop} {ρ : En} (hA : At arS w0 D w ρ (uA 3 3 12 0 0 sa sb p r q)) {Q : Exit → Act → World → Prop} (hQ : ∀ (ρ' : En) (w' : World) (g : Nat → Value) (q : Value), (∀ j, j < 4 → ρ' j = ρ j) → At arS w0 D w' ρ' (uA 3 3 12 0 0 sa sb p r q) → Q .normal (actN ρ' 90 (uS 0 0 g) []) w') : tmI.wpIn (Fe none) 0 Tryz.prog Q (actN ρ 90 (uIS g) []) w :=
  piece (e := 10) (p1 := .blk [.ptr 6 0, .ptr 9 0, .lit q, vj (3), .sl 44 8 0 3, .sl 42 8 0 4] 49) (Qv := .lit q) (Mc := fun q : Value => uA 3 3 12 0 0 sa sb p r q) (lv := uV 0 0) (k0 := 56) (k := 56) entrX tblQ_ok (uiA_run sa sb p r q g) (uiA_obs) ⟨rfl, uA_lt _ _ _ _ _ _ _ _ _ _⟩ (by decide) (lvS uIVB) (ndB_ok (by kernel_rfl)) (fun j hj => by match j, hj with | 0, _ | 1, _ | 2, _ | 3, _ => rfl) (show 4 ≤ 56 by decide) (uiA_hp sa sb p r q g) (fun ρ => by kernel_rfl) (fun q => ⟨rfl, uA_lt _ _ _ _ _ _ _ _ _ _⟩) rfl (by first | rfl | (rw [add0]; rfl)) (lvB (uVB _ _)) hA hQ
end Go.Proofs.YtockaipodnapjaaGreatDoor

namespace Go.Proofs.YtockaipodnapjaaGreatDoor
open Go Go.RowKit
set_option linter.unusedVariables false
set_option maxRecDepth 100000
theorem pU_obs {a b sa p : Int} (s1 : 0 ≤ sa) (p1 : 49152 ≤ p) (p2 : p ≤ 49215) (r1 : 49152 ≤ prt2 sa) (r2 : prt2 sa ≤ 49215) (hr : prt2 sa ≠ p) : okObs (pU_L sa p (prt2 sa) ++ cnE a b) := okO_app (by
  have e1 : Int.tmod 1 64 = 1 := rfl
  have m1 := Int.tmod_nonneg (b := 64) s1
  have m2 := Int.tmod_lt_of_pos (b := 64) sa (by omega)
  have m3 := Int.tmod_nonneg (b := 64) (show 0 ≤ sa.tmod 64 + Int.tmod 1 64 + 64 by omega)
  have m4 := Int.tmod_lt_of_pos (b := 64) (sa.tmod 64 + Int.tmod 1 64 + 64) (by omega)
  have i1 : inR ((sa.tmod 64).add ((1 : Int).tmod 64)) = true := inR_t (by show _ ≤ sa.tmod 64 + Int.tmod 1 64; omega) (by show sa.tmod 64 + Int.tmod 1 64 ≤ _; omega)
  have i2 : inR (((sa.tmod 64).add ((1 : Int).tmod 64)).add 64) = true := inR_t (by show _ ≤ sa.tmod 64 + Int.tmod 1 64 + 64; omega) (by show sa.tmod 64 + Int.tmod 1 64 + 64 ≤ _; omega)
  have i3 : inR (((((sa.tmod 64).add ((1 : Int).tmod 64)).add 64).tmod 64).add 0) = true := inR_t (by show _ ≤ (sa.tmod 64 + Int.tmod 1 64 + 64).tmod 64 + 0; omega) (by show (sa.tmod 64 + Int.tmod 1 64 + 64).tmod 64 + 0 ≤ _; omega)
  have i4 : inR (prt2 sa) = true := inR_t (by omega) (by omega)
  generalize prt2 sa = r at *
  unfold pU_L
  (repeat' first | exact okO_nil | refine okO_cons ?_ ?_) <;> first | rfl | exact p_n1 r1 | exact p_n2 r2 | exact p_n3 r2 | exact i1 | exact i2 | exact i3 | exact i4 | exact p_n1 p1 | exact p_n2 p2 | exact p_n3 p2 | exact p_n4 | exact ieq_t rfl | exact keq_refl _ | exact keq_i hr | exact keq_p hr _ | exact keq_t hr _ _ _ _ | (simp only [p_n1 p1, p_n2 p2, p_n1 r1, p_n2 r2, Bool.and_true, Bool.true_and])) (cnE_ok a b)
theorem pU_hp (sa sb p r : Int) : ∀ q' : Value, (pU_p sa sb p r).map Pl.fl = ((uA 3 3 12 0 0 sa sb p r q').map fun x => (x.ren fun j => ([0, 1, 2, 3, 4, 5, 6, 7, 8, 9, 10, 11, 12, 13, 14, 15, 16, 17, 18, 19, 20, 21, 22, 23, 24, 25, 26, 27, 28, 29, 30, 31, 32, 33, 34, 35, 36, 37, 38, 39, 40, 41, 44, 54, 78, 94, 98, 100, 104, 105, 106, 107, 108, 109, 159, 174] : List Nat).getD j 0).fl).set 10 (.blk [.ptr 6 0, .ptr 9 0, .sl 172 9 0 1, .int false .i64 3, .sl 78 8 0 3, .sl 44 8 0 4] 49 : Pl Nat).fl := by
  intro q'
  simp only [pU_p, uA, List.map_cons, List.map_nil, ringZ_fl, ringZ_ren]
  kernel_rfl
theorem pU_step {a b : Int} (ha : inR a = true) (hb : inR b = true) {X : Code} {w0 w : World} {D : Nat → Prop} {ρ : En} (hA : At arS w0 D w ρ MS) {Q : Exit → Act → World → Prop}
    (hQ : ∀ (ρ' : En) (w' : World) (g : Nat → Value) (q : Value), (∀ j, j < 4 → ρ' j = ρ j) → At arS w0 D w' ρ' (uA 3 3 12 0 0 (pickF a 4294967296) (pickF b 4294967296) (prt (pickF a 4294967296)) (prt2 (pickF a 4294967296)) q) → X.wpIn (Fe none) 0 Tryz.prog Q (actN ρ' 90 (uIS g) []) w') :
    (chainC tmP X).wpIn (Fe none) 0 Tryz.prog Q (actN ρ 90 (mkF 90 0 [.int true .i64 a, .int true .i64 b, .bool false false] .z) []) w := by
  have h1 := pickF_rg a (n := 4294967296) (by decide)
  have h3 := prt_rg h1.1
  have h4 := prt2_rg h1.1
  exact piece_chain (e := 10) (p1 := .blk [.ptr 6 0, .ptr 9 0, .sl 172 9 0 1, .int false .i64 3, .sl 78 8 0 3, .sl 44 8 0 4] 49) (Qv := .sl 172 9 0 1) (Mc := fun q : Value => uA 3 3 12 0 0 (pickF a 4294967296) (pickF b 4294967296) (prt (pickF a 4294967296)) (prt2 (pickF a 4294967296)) q) (lv := uIV) (k0 := 4) (k := 56) entrY (tblT_ok ha hb) (pU_run a b _ _ _) (pU_obs h1.1 h3.1 h3.2 h4.1 h4.2.1 h4.2.2) (by decide) (fun i => MS_sc i) (all_mkF (p := fun v => V.sc _ v) 0 (fun v hv => by rcases List.mem_cons.1 hv with rfl | hv; trivial; rcases List.mem_cons.1 hv with rfl | hv; trivial; rcases List.mem_cons.1 hv with rfl | hv; trivial; cases hv) trivial) (ndB_ok (by kernel_rfl)) (fun j hj => by match j, hj with | 0, _ | 1, _ | 2, _ | 3, _ => rfl) (by decide) (pU_hp _ _ _ _) (fun ρ => by kernel_rfl) (fun q => ⟨rfl, uA_lt _ _ _ _ _ _ _ _ _ _⟩) rfl rfl (lvB uIVB) hA hQ
def uT : List (Int × Int × Int × Int) := [(15, 24, 1, 1), (39, 48, 2, 2), (87, 96, 3, 3), (183, 192, 4, 4), (375, 240, 5, 5), (615, 240, 6, 6), (855, 240, 7, 7), (1095, 240, 8, 8), (1335, 240, 9, 8), (1575, 240, 10, 8), (1815, 240, 11, 8), (2055, 240, 12, 8)]
theorem uT_rg : ∀ t ∈ uT, 15 ≤ t.1 ∧ 0 < t.2.1 ∧ t.2.1 < 1000 ∧ t.1 + t.2.1 ≤ 2295 ∧ 0 ≤ t.2.2.1 ∧ t.2.2.1 < 1000 := by decide
section
variable (w0 : World) (ρ00 : En) (sa sb p r : Int)
/-- The head of the loop: before the first retransmission, between two, after the end. -/
def uI (k : Nat) (a : Act) (w : World) : Prop := ∃ ρ g q, (∀ j, j < 4 → ρ j = ρ00 j) ∧
  ((∃ n i : Int, 3 ≤ n ∧ n < 15 ∧ i = n - 3 ∧ k = (2400 - n).toNat ∧ At arS w0 (fun b => b < 3) w ρ (uA n 3 12 0 0 sa sb p r q) ∧ a = actN ρ 90 (uS i 0 g) []) ∨
   (∃ n i S V c b : Int, (S, V, c, b) ∈ uT ∧ S ≤ n ∧ n < S + V ∧ i = n - 3 ∧ k = (2400 - n).toNat ∧ At arS w0 (fun b => b < 3) w ρ (uB n S V c b sa sb p r q) ∧ a = actN ρ 90 (uS i c g) []) ∨
   (k = 0 ∧ At arS w0 (fun b => b < 3) w ρ toF ∧ a = actN ρ 90 (uFS g) []))
theorem uI_round (p1 : 49152 ≤ p) (p2 : p ≤ 49215) (r1 : 49152 ≤ r) (r2 : r ≤ 49215) (hr : r ≠ p) {Q : Exit → Act → World → Prop} (hQ : ∀ ρ w g, (∀ j, j < 4 → ρ j = ρ00 j) → At arS w0 (fun b => b < 3) w ρ toF → Q (.exit 0) (actN ρ 90 (uFS g) []) w) (k : Nat) (a : Act) (w : World) (h : uI w0 ρ00 sa sb p r k a w) :
    tmL.wpIn (Fe none) 0 Tryz.prog (Exit.then (fun a' w' => ∃ k', k' < k ∧ uI w0 ρ00 sa sb p r k' a' w') Q) a w := by
  obtain ⟨ρ, g, q, hρ, ⟨n, i, h1, h2, h3, hk, hA, rfl⟩ | ⟨n, i, S, V, c, b, ht, h1, h2, h3, hk, hA, rfl⟩ | ⟨hk, hA, rfl⟩⟩ := h
  · by_cases h7 : n < 14
    · refine uqA_step n i 3 12 0 0 sa sb p r q g (by omega) (by omega) (by omega) (by omega) (by omega) (by omega) (by omega) (by omega) (by omega) (by omega) hA fun ρ' w' g' q' e' A' => ?_
      exact ⟨(2400 - (n + 1)).toNat, by omega, ρ', g', q', fun j hj => (e' j hj).trans (hρ j hj), .inl ⟨n + 1, i + 1, by omega, by omega, by omega, rfl, A', rfl⟩⟩
    · obtain rfl : n = 14 := by omega
      obtain rfl : i = 11 := by omega
      refine us0_step sa sb p r q g p1 p2 r1 r2 hr hA fun ρ' w' g' q' e' A' => ?_
      exact ⟨(2400 - 15 : Int).toNat, by omega, ρ', g', q', fun j hj => (e' j hj).trans (hρ j hj), .inr (.inl ⟨15, 12, 15, 24, 1, 1, by decide, by omega, by omega, by omega, rfl, A', rfl⟩)⟩
  · have hr' := uT_rg _ ht
    simp only at hr'
    obtain ⟨q1, q2, q3, q4, q5, q6⟩ := hr'
    by_cases h7 : n + 1 < S + V
    · refine uqB_step n i S V c b sa sb p r q g (by omega) (by omega) (by omega) (by omega) (by omega) (by omega) (by omega) (by omega) (by omega) (by omega) hA fun ρ' w' g' q' e' A' => ?_
      exact ⟨(2400 - (n + 1)).toNat, by omega, ρ', g', q', fun j hj => (e' j hj).trans (hρ j hj), .inr (.inl ⟨n + 1, i + 1, S, V, c, b, ht, by omega, by omega, by omega, rfl, A', rfl⟩)⟩
    · simp only [uT, List.mem_cons, List.not_mem_nil, or_false, Prod.mk.injEq] at ht
      rcases ht with ⟨rfl, rfl, rfl, rfl⟩ | ⟨rfl, rfl, rfl, rfl⟩ | ⟨rfl, rfl, rfl, rfl⟩ | ⟨rfl, rfl, rfl, rfl⟩ | ⟨rfl, rfl, rfl, rfl⟩ | ⟨rfl, rfl, rfl, rfl⟩ | ⟨rfl, rfl, rfl, rfl⟩ | ⟨rfl, rfl, rfl, rfl⟩ | ⟨rfl, rfl, rfl, rfl⟩ | ⟨rfl, rfl, rfl, rfl⟩ | ⟨rfl, rfl, rfl, rfl⟩ | ⟨rfl, rfl, rfl, rfl⟩
      · obtain rfl : n = 38 := by omega
        obtain rfl : i = 35 := by omega
        refine us1_step sa sb p r q g p1 p2 r1 r2 hr hA fun ρ' w' g' q' e' A' => ?_
        exact ⟨(2400 - 39 : Int).toNat, by omega, ρ', g', q', fun j hj => (e' j hj).trans (hρ j hj), .inr (.inl ⟨39, 36, 39, 48, 2, 2, by decide, by omega, by omega, by omega, rfl, A', rfl⟩)⟩
      · obtain rfl : n = 86 := by omega
        obtain rfl : i = 83 := by omega
        refine us2_step sa sb p r q g p1 p2 r1 r2 hr hA fun ρ' w' g' q' e' A' => ?_
        exact ⟨(2400 - 87 : Int).toNat, by omega, ρ', g', q', fun j hj => (e' j hj).trans (hρ j hj), .inr (.inl ⟨87, 84, 87, 96, 3, 3, by decide, by omega, by omega, by omega, rfl, A', rfl⟩)⟩
      · obtain rfl : n = 182 := by omega
        obtain rfl : i = 179 := by omega
        refine us3_step sa sb p r q g p1 p2 r1 r2 hr hA fun ρ' w' g' q' e' A' => ?_
        exact ⟨(2400 - 183 : Int).toNat, by omega, ρ', g', q', fun j hj => (e' j hj).trans (hρ j hj), .inr (.inl ⟨183, 180, 183, 192, 4, 4, by decide, by omega, by omega, by omega, rfl, A', rfl⟩)⟩
      · obtain rfl : n = 374 := by omega
        obtain rfl : i = 371 := by omega
        refine us4_step sa sb p r q g p1 p2 r1 r2 hr hA fun ρ' w' g' q' e' A' => ?_
        exact ⟨(2400 - 375 : Int).toNat, by omega, ρ', g', q', fun j hj => (e' j hj).trans (hρ j hj), .inr (.inl ⟨375, 372, 375, 240, 5, 5, by decide, by omega, by omega, by omega, rfl, A', rfl⟩)⟩
      · obtain rfl : n = 614 := by omega
        obtain rfl : i = 611 := by omega
        refine us5_step sa sb p r q g p1 p2 r1 r2 hr hA fun ρ' w' g' q' e' A' => ?_
        exact ⟨(2400 - 615 : Int).toNat, by omega, ρ', g', q', fun j hj => (e' j hj).trans (hρ j hj), .inr (.inl ⟨615, 612, 615, 240, 6, 6, by decide, by omega, by omega, by omega, rfl, A', rfl⟩)⟩
      · obtain rfl : n = 854 := by omega
        obtain rfl : i = 851 := by omega
        refine us6_step sa sb p r q g p1 p2 r1 r2 hr hA fun ρ' w' g' q' e' A' => ?_
        exact ⟨(2400 - 855 : Int).toNat, by omega, ρ', g', q', fun j hj => (e' j hj).trans (hρ j hj), .inr (.inl ⟨855, 852, 855, 240, 7, 7, by decide, by omega, by omega, by omega, rfl, A', rfl⟩)⟩
      · obtain rfl : n = 1094 := by omega
        obtain rfl : i = 1091 := by omega
        refine us7_step sa sb p r q g p1 p2 r1 r2 hr hA fun ρ' w' g' q' e' A' => ?_
        exact ⟨(2400 - 1095 : Int).toNat, by omega, ρ', g', q', fun j hj => (e' j hj).trans (hρ j hj), .inr (.inl ⟨1095, 1092, 1095, 240, 8, 8, by decide, by omega, by omega, by omega, rfl, A', rfl⟩)⟩
      · obtain rfl : n = 1334 := by omega
        obtain rfl : i = 1331 := by omega
        refine us8_step sa sb p r q g p1 p2 r1 r2 hr hA fun ρ' w' g' q' e' A' => ?_
        exact ⟨(2400 - 1335 : Int).toNat, by omega, ρ', g', q', fun j hj => (e' j hj).trans (hρ j hj), .inr (.inl ⟨1335, 1332, 1335, 240, 9, 8, by decide, by omega, by omega, by omega, rfl, A', rfl⟩)⟩
      · obtain rfl : n = 1574 := by omega
        obtain rfl : i = 1571 := by omega
        refine us9_step sa sb p r q g p1 p2 r1 r2 hr hA fun ρ' w' g' q' e' A' => ?_
        exact ⟨(2400 - 1575 : Int).toNat, by omega, ρ', g', q', fun j hj => (e' j hj).trans (hρ j hj), .inr (.inl ⟨1575, 1572, 1575, 240, 10, 8, by decide, by omega, by omega, by omega, rfl, A', rfl⟩)⟩
      · obtain rfl : n = 1814 := by omega
        obtain rfl : i = 1811 := by omega
        refine us10_step sa sb p r q g p1 p2 r1 r2 hr hA fun ρ' w' g' q' e' A' => ?_
        exact ⟨(2400 - 1815 : Int).toNat, by omega, ρ', g', q', fun j hj => (e' j hj).trans (hρ j hj), .inr (.inl ⟨1815, 1812, 1815, 240, 11, 8, by decide, by omega, by omega, by omega, rfl, A', rfl⟩)⟩
      · obtain rfl : n = 2054 := by omega
        obtain rfl : i = 2051 := by omega
        refine us11_step sa sb p r q g p1 p2 r1 r2 hr hA fun ρ' w' g' q' e' A' => ?_
        exact ⟨(2400 - 2055 : Int).toNat, by omega, ρ', g', q', fun j hj => (e' j hj).trans (hρ j hj), .inr (.inl ⟨2055, 2052, 2055, 240, 12, 8, by decide, by omega, by omega, by omega, rfl, A', rfl⟩)⟩
      · obtain rfl : n = 2294 := by omega
        obtain rfl : i = 2291 := by omega
        refine ufB_step sa sb p r q g p1 p2 r1 r2 hr hA fun ρ' w' g' q' e' A' => ?_
        exact ⟨0, by omega, ρ', g', q', fun j hj => (e' j hj).trans (hρ j hj), .inr (.inr ⟨rfl, A', rfl⟩)⟩
  · refine uxF_step g hA fun ρ' w' g' q' e' A' => ?_
    exact hQ ρ' w' g' (fun j hj => (e' j hj).trans (hρ j hj)) A'
end
theorem timeout_u (a b : Int) (w : World) (hw : Glbs w) (ha : inR a = true) (hb : inR b = true) : Calls Tryz.prog 6 #[.int .i64 a, .int .i64 b, .bool false] w fun e w' => e = .returned (.bool true) ∧ Below w.heap.size w w' := by
  obtain ⟨ρ, hA, hend⟩ := glbs_at w hw
  have h1 := pickF_rg a (n := 4294967296) (by decide)
  have h3 := prt_rg h1.1
  have h4 := prt2_rg h1.1
  refine call_of_wp (ρ := ρ) (args := [.int true .i64 a, .int true .i64 b, .bool false false]) (fn := Tryz.f6) rfl tmB_eq (show 3 ≤ 90 by decide) ?_
  refine pU_step ha hb hA fun ρ1 w1 g1 q1 e1 A1 => ?_
  refine wpIn_seq (wpIn_seq (uiA_step _ _ _ _ q1 g1 A1 fun ρ2 w2 g2 q2 e2 A2 => wpIn_block (wpIn_loop_ghost (uI w ρ (pickF a 4294967296) (pickF b 4294967296) (prt (pickF a 4294967296)) (prt2 (pickF a 4294967296))) 2397 ?_ (uI_round w ρ _ _ _ _ h3.1 h3.2 h4.1 h4.2.1 h4.2.2 ?_))))
  · exact ⟨ρ2, g2, q2, fun j hj => (e2 j hj).trans (e1 j hj), .inl ⟨3, 0, by omega, by omega, by omega, rfl, A2, rfl⟩⟩
  · intro ρ3 w3 g3 e3 A3
    refine uzF_step g3 A3 fun ρ4 w4 g4 q4 e4 A4 => ?_
    refine (fin_leaves (ar := arS) (A := Nat) (P := Tryz.prog) (fn := Tryz.f6) (ds := []) (ch := []) (M := MS) (obs := []) (lg := .nil) (r := rv (.bool true true)) (M' := MS) (ch' := []) (obs' := []) (lg' := .nil) (by kernel_rfl)).2.2 A4 (fun i => MS_sc i) (B := fun n => n < 4) (lvS (k := 4) (by kernel_rfl)) fun v w' hv _ A5 _ => ?_
    cases hv
    exact ⟨rfl, hend ρ4 w' MS (fun j hj => (e4 j (by omega)).trans (e3 j (by omega))) A5 (fun i _ => rfl) (by decide)⟩
theorem timeout_w (a b : Int) (first : Bool) (w : World) (hw : Glbs w) (ha : inR a = true) (hb : inR b = true) : Calls Tryz.prog 6 #[.int .i64 a, .int .i64 b, .bool first] w fun e w' => e = .returned (.bool true) ∧ Below w.heap.size w w' := by
  cases first with
  | true => exact timeout_t a b w hw ha hb
  | false => exact timeout_u a b w hw ha hb
end Go.Proofs.YtockaipodnapjaaGreatDoor

