/- A machine of symbolic values: SocketTimeout: its code; first = true: the runs. -/
import Derived.Test.YtockaipodnapjaaGreatDoorVq
import Derived.Test.YtockaipodnapjaaGreatDoorVc
namespace Go.Proofs.YtockaipodnapjaaGreatDoor
open Go Go.RowKit
set_option linter.unusedVariables false
set_option maxRecDepth 100000
abbrev vi (n : Int) : V := .int false .i64 n
abbrev vj (n : Int) : V := .int true .i64 n
abbrev vF : V := .bool false false
abbrev vT : V := .bool false true
abbrev vN : V := .lit (.slice none 0 0)
abbrev oN (n : Nat) : Int := Int.ofNat n
def seqA : Code → Code
  | .seq a _ => a
  | c => c
def seqZ : Code → Code
  | .seq _ b => b
  | c => c
noncomputable def tmB : Code := match Tryz.f6.body with
  | some c => c
  | none => .skip
def seqZn : Nat → Code → Code
  | 0, c => c
  | n + 1, c => seqZn n (seqZ c)
noncomputable def tmP : List Code := [seqA tmB, seqA (seqZn 1 tmB), seqA (seqZn 2 tmB), seqA (seqZn 3 tmB), seqA (seqZn 4 tmB), seqA (seqZn 5 tmB), seqA (seqZn 6 tmB), seqA (seqZn 7 tmB)]
noncomputable def tmX : Code := seqZn 8 tmB
noncomputable def tmI : Code := seqA (seqA tmX)
noncomputable def tmK : Code := seqZ (seqA tmX)
noncomputable def tmL : Code := match tmK with
  | .block _ (.loop c) => c
  | _ => .skip
noncomputable def tmZ : Code := seqZ tmX
theorem tmB_eq : Tryz.f6.body = some (chainC tmP (.seq (.seq tmI (.block 0 (.loop tmL))) tmZ)) := by kernel_rfl
noncomputable def tblT (a b sa sb p : Int) : FuncId → Option (List V → T Nat) := addT tblQ 11 (cnT a b sa sb p)
end Go.Proofs.YtockaipodnapjaaGreatDoor

namespace Go.Proofs.YtockaipodnapjaaGreatDoor
open Go Go.RowKit
set_option linter.unusedVariables false
set_option maxRecDepth 100000
theorem glbs_at (w : World) (hw : Glbs w) : ∃ ρ : En, At arS w (fun b => b < 3) w ρ MS ∧ ∀ (ρ' : En) (w' : World) (M1 : List (Pl Nat)), (∀ b, b < 3 → ρ' b = ρ b) → At arS w (fun b => b < 3) w' ρ' M1 → (∀ i, i < 3 → Mget M1 i = Mget MS i) → 4 ≤ M1.length → Below w.heap.size w w' := by
  obtain ⟨k0, ⟨v1, k1⟩, k2⟩ := hw
  obtain ⟨a0, t0, f0, o0⟩ := obj_of k0
  obtain ⟨a1, t1, f1, o1⟩ := obj_of k1
  obtain ⟨a2, t2, f2, o2⟩ := obj_of (k2 0 _ rfl)
  obtain ⟨ρ, hρ0, hρ1, hρ2, hρ3⟩ : ∃ ρ : En, ρ 0 = objV (.cells a0 t0 f0) ∧ ρ 1 = objV (.cells a1 t1 f1) ∧ ρ 2 = objV (.cells a2 t2 f2) ∧ ρ 3 = v1 :=
    ⟨fun i => match i with | 0 => objV (.cells a0 t0 f0) | 1 => objV (.cells a1 t1 f1) | 2 => objV (.cells a2 t2 f2) | _ => v1, rfl, rfl, rfl, rfl⟩
  have htri : denL ρ triS = denL ρ0 triS := denL_eq (A := fun _ => False) (fun _ h => h.elim) triS (clL_sc _ rfl)
  have hA : At arS w (fun b => b < 3) w ρ MS := by
    refine ⟨Upd.refl _ _, fun i b => i < 3 ∧ b = i, fun i hi => ?_, fun i j hi hj hij b hb hc => hij (hb.2.symm.trans hc.2)⟩
    refine ⟨?_, fun b hb => .inl (by omega)⟩
    match i, hi with
    | 0, _ =>
      refine ⟨fun i u hu => ?_, fun b => by simp, ?_⟩
      · match i, hu with
        | 0, hu =>
          cases hu
          rw [hρ0]
          exact cellO_of k0 o0
      · rw [hρ0]; exact o0
    | 1, _ =>
      refine ⟨fun i u hu => ?_, fun b => by simp, ?_⟩
      · match i, hu with
        | 0, hu =>
          have hu : some (Value.iface 400 (ρ 3)) = some u := hu
          rw [hρ3] at hu
          cases hu
          rw [hρ1]
          exact cellO_of k1 o1
      · rw [hρ1]; exact o1
    | 2, _ =>
      refine ⟨fun i u hu => ?_, fun b => by simp, ?_⟩
      · rw [htri] at hu
        rw [hρ2]
        exact cellO_of (k2 i u hu) o2
      · rw [hρ2]; exact o2
    | 3, _ => exact fun b hb => by omega
  refine ⟨ρ, hA, fun ρ' w' M1 hE2 hA2 hM1 h4 => ⟨hA2.upd.os, hA2.upd.tape, hA2.upd.output, hA2.upd.size, fun b hb => ?_⟩⟩
  by_cases c : b < 3
  · skip
    obtain ⟨F, g1, _⟩ := OwnN.step hA2 (i := b) (by omega)
    rw [hM1 b c] at g1
    have hb' : ρ' b = ρ b := hE2 b c
    match b, c, g1, hb' with
    | 0, _, g1, hb' =>
      have g1 : w'.heap[0]? = some (objOf (ρ' 0)) := g1.2.2
      rw [g1, hb', hρ0, o0]; rfl
    | 1, _, g1, hb' =>
      have g1 : w'.heap[1]? = some (objOf (ρ' 1)) := g1.2.2
      rw [g1, hb', hρ1, o1]; rfl
    | 2, _, g1, hb' =>
      have g1 : w'.heap[2]? = some (objOf (ρ' 2)) := g1.2.2
      rw [g1, hb', hρ2, o2]; rfl
  · exact hA2.upd.block b hb c
end Go.Proofs.YtockaipodnapjaaGreatDoor

namespace Go.Proofs.YtockaipodnapjaaGreatDoor
open Go Go.RowKit
set_option linter.unusedVariables false
set_option maxRecDepth 100000
theorem ringZ_fl : Pl.fl ringZ = ringZ := by
  show Pl.row 5 1 (List.map flL (List.replicate 2048 [.int false .u8 0])) = _
  rw [List.map_replicate]
  rfl
def toV (i c : Int) : List (Nat × V) := [(6, vF), (7, vT), (8, .ptr 10 0), (10, vi 4), (11, vj c), (12, .ptr 45 0), (13, vF), (14, vj i)]
noncomputable def toS (i c : Int) (g : Nat → Value) : Nd V := mkF 90 0 (slC 90 g (toV i c)) .z
def toA (n S V c b sa sb p : Int) (q : Value) : List (Pl Nat) := [(MS.getD 0 .none),
  (MS.getD 1 .none),
  (MS.getD 2 .none),
  .none,
  .blk [vj sa, vi 1, .nm 16, .nm 17, .nm 19, .nm 20, .nm 22] 170,
  .map 0 [(.i 1, .ptr 11 0)],
  .blk [vj sa, .ptr 4 0, .nm 5, vi 1, vi 1, vi 4, .sl 44 9 0 1, vN, vN] 88,
  .blk [vj sb, vi 0, .nm 13, .nm 14, .nm 36, .nm 37, .nm 39] 170,
  .map 0 [(.i 1, .ptr 12 0), (.i 2, .ptr 40 0)],
  .blk [vj sb, .ptr 7 0, .nm 8, vi 2, vi 1, vi 4, vN, vN, vN] 88,
  .blk [.ptr 6 0, .ptr 9 0, .lit q, vj n, .sl 43 8 0 3, .sl 42 8 0 4] 49,
  .blk [.ptr 26 0, vi 1, vi 6, vT, vi 0, vi 0, vi 0, vi 1, vj p, vi 2, vi 80, vN, vi 4, vi 0] 74,
  .blk [.lit (.pointer none), vi 1, vi 6, vT, vi 0, vi 3, vi 500, vi 0, vi 80, vi 0, vi 0, vN, vi 0, vi 0] 74,
  .map 1 [(.p 6 80, vi 1)],
  .map 0 [(.i 1, .sl 15 2 0 1)],
  .row 220 2 [[vi 6, vi 80]],
  .map 1 [(.p 6 p, vi 1)],
  .map 0 [(.i 1, .sl 18 2 0 1)],
  .row 220 2 [[vi 6, vj p]],
  .map 2 [(.t p 2 80, vi 1)],
  .map 0 [(.i 1, .sl 21 3 0 1)],
  .row 224 3 [[vj p, vi 2, vi 80]],
  .map 0 [(.i p, vi 1)],
  .none,
  ringZ,
  .blk [.sl 24 1 0 2048, vi 0, vi 0, vN, vi 0] 263,
  .blk [.ptr 27 0, .ptr 28 0, .ptr 41 0, .str false ⟨#[108, 111, 115, 116]⟩, vi 1, vi 2049, vi 2048, vi 500, vT, vF, vi 0, .ptr 25 0, .sq 29 1048576, vi 2048, vi 2048, vF, vi 0, vF, vi 0, vF, vi 0, vi 0, vj p, vi 80, .sq 23 1048576, vi 500, vi 2048, vi 2048, vi 3, vi 0, vT, vj S, vj V, vj c, vF, vi 0, vi 0] 119,
  .blk [vi 1, vi 5, vi 0, vN, vN] 298,
  .blk [vT, vi 8, vi 2, vT, vi 5, vi 3, vj b] 280,
  .none,
  ringZ,
  .blk [.sl 30 1 0 2048, vi 0, vi 0, vN, vi 0] 263,
  .blk [.ptr 33 0, .ptr 34 0, .ptr 35 0, .str false ⟨#[]⟩, vi 1, vi 2049, vi 2048, vi 500, vT, vF, vi 0, .ptr 31 0, .sq 23 1048576, vi 2048, vi 2048, vF, vi 0, vF, vi 0, vF, vi 0, vi 0, vi 80, vj p, .sq 29 1048576, vi 500, vi 2048, vi 2048, vi 3, vi 0, vF, vi 0, vi 0, vi 0, vF, vi 0, vi 0] 119,
  .blk [vi 1, vi 1, vi 0, vN, vN] 298,
  .blk [vT, vi 8, vi 2, vF, vi 1, vi 0, vi 0] 280,
  .blk [vi 500, vi 1000, vi 65535, vF, vi 0, .fn (.func 306) [] [], .fn (.func 307) [] []] 339,
  .map 2 [(.t 80 1 p, vi 2)],
  .map 0 [(.i 2, .sl 38 3 0 1)],
  .row 224 3 [[vi 80, vi 1, vj p]],
  .map 0 [(.i 80, vi 1)],
  .blk [.ptr 32 0, vi 2, vi 6, vT, vi 0, vi 0, vi 0, vi 2, vi 80, vi 1, vj p, vN, vi 0, vi 0] 74,
  .blk [vi 500, vi 1000, vi 65535, vF, vi 0, .fn (.func 306) [] [], .fn (.func 307) [] []] 339,
  .row 35 8 [[vi 1, vi 0, vi 1, .str false ⟨#[]⟩, vi 0, vi 0, vN, vF], [vi 2, vi 0, vi 80, .str false ⟨#[]⟩, vi 0, vi 0, vN, vF], [vi 3, vi 0, vi 0, .str false ⟨#[]⟩, vi 0, vi 0, vN, vF], [vi 4, vi 0, vi 2, .str false ⟨#[]⟩, vi 1, vj p, vN, vF]],
  .row 35 8 [[vi 1, vi 0, vi 1, .str false ⟨#[]⟩, vi 0, vi 0, vN, vF], [vi 2, vi 0, vi 0, .str false ⟨#[]⟩, vi 0, vi 0, vN, vF], [vi 3, vi 0, vi 4, .str false ⟨#[]⟩, vi 0, vi 0, vN, vF]],
  .row 104 9 [[vi 7, vi 1, vi 0, vi 0, vi 9, .str false ⟨#[]⟩, vi 1, vi 500, vi 4]],
  .blk [vi 0, vi 0, vi 0, .str false ⟨#[]⟩, vi 0, vi 0, vN, vF] 35]
def qA_L (n i S V c b sa sb p : Int) (q : Value) (g : Nat → Value) : Obs := [(inR (i.add (oN 1)), true), (inR (c.add (oN 0)), true), (true, true), (true, true), (!ilt (IntKind.u64.wrap (IntKind.u64.wrap (n.add (oN 1)) - IntKind.u64.wrap S)) (IntKind.u64.wrap V), false), (!ilt (n.add (oN 1)) S, true), (!ilt (n.add (oN 1)) S, true), (!ilt (n.add (oN 1)) S, true), (!ilt (n.add (oN 1)) S, true), (!ilt (n.add (oN 1)) S, true), (!ilt (n.add (oN 1)) S, true), (!ilt (n.add (oN 1)) S, true), (!ilt (n.add (oN 1)) S, true), (!ilt (n.add (oN 1)) S, true), (!ilt (n.add (oN 1)) S, true), (!ilt (n.add (oN 1)) S, true), (inR (n.add (oN 1)), true), (ilt i (oN 3200), true), (ilt i (oN 3200), true), (ilt i (oN 3200), true)]
def qA_p (n i S V c b sa sb p : Int) (q : Value) (g : Nat → Value) : List (Pl Nat) := [(MS.getD 0 .none),
  (MS.getD 1 .none),
  (MS.getD 2 .none),
  .none,
  .blk [vj sa, vi 1, .nm 16, .nm 17, .nm 19, .nm 20, .nm 22] 170,
  .map 0 [(.i 1, .ptr 11 0)],
  .blk [vj sa, .ptr 4 0, .nm 5, vi 1, vi 1, vi 4, .sl 154 9 0 1, vN, vN] 88,
  .blk [vj sb, vi 0, .nm 13, .nm 14, .nm 36, .nm 37, .nm 39] 170,
  .map 0 [(.i 1, .ptr 12 0), (.i 2, .ptr 40 0)],
  .blk [vj sb, .ptr 7 0, .nm 8, vi 2, vi 1, vi 4, vN, vN, vN] 88,
  .blk [.ptr 6 0, .ptr 9 0, vN, vj (Int.add n 1), .sl 43 8 0 3, .sl 42 8 0 4] 49,
  .blk [.ptr 26 0, vi 1, vi 6, vT, vi 0, vi 0, vi 0, vi 1, vj p, vi 2, vi 80, vN, vi 4, vi 0] 74,
  .blk [.lit (.pointer none), vi 1, vi 6, vT, vi 0, vi 3, vi 500, vi 0, vi 80, vi 0, vi 0, vN, vi 0, vi 0] 74,
  .map 1 [(.p 6 80, vi 1)],
  .map 0 [(.i 1, .sl 15 2 0 1)],
  .row 220 2 [[vi 6, vi 80]],
  .map 1 [(.p 6 p, vi 1)],
  .map 0 [(.i 1, .sl 18 2 0 1)],
  .row 220 2 [[vi 6, vj p]],
  .map 2 [(.t p 2 80, vi 1)],
  .map 0 [(.i 1, .sl 21 3 0 1)],
  .row 224 3 [[vj p, vi 2, vi 80]],
  .map 0 [(.i p, vi 1)],
  .none,
  ringZ,
  .blk [.sl 24 1 0 2048, vi 0, vi 0, vN, vi 0] 263,
  .blk [.ptr 27 0, .ptr 28 0, .ptr 41 0, .str false ⟨#[108, 111, 115, 116]⟩, vi 1, vi 2049, vi 2048, vi 500, vT, vF, vi 0, .ptr 25 0, .sq 29 1048576, vi 2048, vi 2048, vF, vi 0, vF, vi 0, vF, vi 0, vi 0, vj p, vi 80, .sq 23 1048576, vi 500, vi 2048, vi 2048, vi 3, vi 0, vT, vj S, vj V, vj c, vF, vi 0, vi 0] 119,
  .blk [vi 1, vi 5, vi 0, vN, vN] 298,
  .blk [vT, vi 8, vi 2, vT, vi 5, vi 3, vj b] 280,
  .none,
  ringZ,
  .blk [.sl 30 1 0 2048, vi 0, vi 0, vN, vi 0] 263,
  .blk [.ptr 33 0, .ptr 34 0, .ptr 35 0, .str false ⟨#[]⟩, vi 1, vi 2049, vi 2048, vi 500, vT, vF, vi 0, .ptr 31 0, .sq 23 1048576, vi 2048, vi 2048, vF, vi 0, vF, vi 0, vF, vi 0, vi 0, vi 80, vj p, .sq 29 1048576, vi 500, vi 2048, vi 2048, vi 3, vi 0, vF, vi 0, vi 0, vi 0, vF, vi 0, vi 0] 119,
  .blk [vi 1, vi 1, vi 0, vN, vN] 298,
  .blk [vT, vi 8, vi 2, vF, vi 1, vi 0, vi 0] 280,
  .blk [vi 500, vi 1000, vi 65535, vF, vi 0, .fn (.func 306) [] [], .fn (.func 307) [] []] 339,
  .map 2 [(.t 80 1 p, vi 2)],
  .map 0 [(.i 2, .sl 38 3 0 1)],
  .row 224 3 [[vi 80, vi 1, vj p]],
  .map 0 [(.i 80, vi 1)],
  .blk [.ptr 32 0, vi 2, vi 6, vT, vi 0, vi 0, vi 0, vi 2, vi 80, vi 1, vj p, vN, vi 0, vi 0] 74,
  .blk [vi 500, vi 1000, vi 65535, vF, vi 0, .fn (.func 306) [] [], .fn (.func 307) [] []] 339,
  .row 35 8 [[vi 1, vi 0, vi 1, .str false ⟨#[]⟩, vi 0, vi 0, vN, vF], [vi 2, vi 0, vi 80, .str false ⟨#[]⟩, vi 0, vi 0, vN, vF], [vi 3, vi 0, vi 0, .str false ⟨#[]⟩, vi 0, vi 0, vN, vF], [vi 4, vi 0, vi 2, .str false ⟨#[]⟩, vi 1, vj p, vN, vF]],
  .row 35 8 [[vi 1, vi 0, vi 1, .str false ⟨#[]⟩, vi 0, vi 0, vN, vF], [vi 2, vi 0, vi 0, .str false ⟨#[]⟩, vi 0, vi 0, vN, vF], [vi 3, vi 0, vi 4, .str false ⟨#[]⟩, vi 0, vi 0, vN, vF]],
  .row 104 9 [[vi 7, vi 1, vi 0, vi 0, vi 9, .str false ⟨#[]⟩, vi 1, vi 500, vi 4]],
  .blk [vi 0, vi 0, vi 0, .str false ⟨#[]⟩, vi 0, vi 0, vN, vF] 35]
theorem qA_run (n i S V c b sa sb p : Int) (q : Value) (g : Nat → Value) : runF (fun _ => none) ((evF Tryz.prog kofX tblQ 400).code 90 false tmL (toS i c g) [] kEnd) [true, true, true, true, true, true, true, true, true, true, true, true, true, true, false] (toA n S V c b sa sb p q).length (trM 0 (toA n S V c b sa sb p q) .z) [] 0 0 (endC 90 [6, 7, 8, 10, 11, 12, 13, 14] [0, 1, 2, 3, 4, 5, 6, 7, 8, 9, 10, 11, 12, 13, 14, 15, 16, 17, 18, 19, 20, 21, 22, 23, 24, 25, 26, 27, 28, 29, 30, 31, 32, 33, 34, 35, 36, 37, 38, 39, 40, 41, 42, 43, 154, 45]) = some (qA_L n i S V c b sa sb p q g, .normal, [vF, vT, .ptr 10 0, vi 4, vj (Int.add c 0), .ptr 45 0, vF, vj (Int.add i 1)], qA_p n i S V c b sa sb p q g) := by kernel_rfl
def toB (n S V c b sa sb p : Int) (q : Value) : List (Pl Nat) := [(MS.getD 0 .none),
  (MS.getD 1 .none),
  (MS.getD 2 .none),
  .none,
  .blk [vj sa, vi 1, .nm 16, .nm 17, .nm 19, .nm 20, .nm 22] 170,
  .map 0 [(.i 1, .ptr 11 0)],
  .blk [vj sa, .ptr 4 0, .nm 5, vi 1, vi 1, vi 4, .sl 44 9 0 1, vN, vN] 88,
  .blk [vj sb, vi 0, .nm 13, .nm 14, .nm 36, .nm 37, .nm 39] 170,
  .map 0 [(.i 1, .ptr 12 0), (.i 2, .ptr 40 0)],
  .blk [vj sb, .ptr 7 0, .nm 8, vi 2, vi 1, vi 4, vN, vN, vN] 88,
  .blk [.ptr 6 0, .ptr 9 0, .lit q, vj n, .sl 43 8 0 3, .sl 42 8 0 4] 49,
  .blk [.ptr 26 0, vi 1, vi 6, vT, vi 0, vi 0, vi 0, vi 1, vj p, vi 2, vi 80, vN, vi 4, vi 0] 74,
  .blk [.lit (.pointer none), vi 1, vi 6, vT, vi 0, vi 3, vi 500, vi 0, vi 80, vi 0, vi 0, vN, vi 0, vi 0] 74,
  .map 1 [(.p 6 80, vi 1)],
  .map 0 [(.i 1, .sl 15 2 0 1)],
  .row 220 2 [[vi 6, vi 80]],
  .map 1 [(.p 6 p, vi 1)],
  .map 0 [(.i 1, .sl 18 2 0 1)],
  .row 220 2 [[vi 6, vj p]],
  .map 2 [(.t p 2 80, vi 1)],
  .map 0 [(.i 1, .sl 21 3 0 1)],
  .row 224 3 [[vj p, vi 2, vi 80]],
  .map 0 [(.i p, vi 1)],
  .none,
  ringZ,
  .blk [.sl 24 1 0 2048, vi 0, vi 0, vN, vi 0] 263,
  .blk [.ptr 27 0, .ptr 28 0, .ptr 41 0, .str false ⟨#[108, 111, 115, 116]⟩, vi 1, vi 2049, vi 2048, vi 500, vT, vF, vi 5, .ptr 25 0, .sq 29 1048576, vi 2048, vi 2048, vF, vi 0, vF, vi 0, vF, vi 0, vi 0, vj p, vi 80, .sq 23 1048576, vi 500, vi 2048, vi 2048, vi 3, vi 0, vT, vj S, vj V, vj c, vF, vi 0, vi 0] 119,
  .blk [vi 1, vi 5, vi 5, vN, .sl 46 2 0 1] 298,
  .blk [vT, vi 8, vi 2, vF, vi 5, vi 3, vj b] 280,
  .none,
  ringZ,
  .blk [.sl 30 1 0 2048, vi 0, vi 0, vN, vi 0] 263,
  .blk [.ptr 33 0, .ptr 34 0, .ptr 35 0, .str false ⟨#[]⟩, vi 1, vi 2049, vi 2048, vi 500, vT, vF, vi 0, .ptr 31 0, .sq 23 1048576, vi 2048, vi 2048, vF, vi 0, vF, vi 0, vF, vi 0, vi 0, vi 80, vj p, .sq 29 1048576, vi 500, vi 2048, vi 2048, vi 3, vi 0, vF, vi 0, vi 0, vi 0, vF, vi 0, vi 0] 119,
  .blk [vi 1, vi 1, vi 0, vN, vN] 298,
  .blk [vT, vi 8, vi 2, vF, vi 1, vi 0, vi 0] 280,
  .blk [vi 500, vi 1000, vi 65535, vF, vi 0, .fn (.func 306) [] [], .fn (.func 307) [] []] 339,
  .map 2 [(.t 80 1 p, vi 2)],
  .map 0 [(.i 2, .sl 38 3 0 1)],
  .row 224 3 [[vi 80, vi 1, vj p]],
  .map 0 [(.i 80, vi 1)],
  .blk [.ptr 32 0, vi 2, vi 6, vT, vi 0, vi 0, vi 0, vi 2, vi 80, vi 1, vj p, vN, vi 0, vi 0] 74,
  .blk [vi 500, vi 500, vi 1000, vF, vi 0, .fn (.func 306) [] [], .fn (.func 307) [] []] 339,
  .row 35 8 [[vi 1, vi 0, vi 1, .str false ⟨#[]⟩, vi 0, vi 0, vN, vF], [vi 2, vi 0, vi 80, .str false ⟨#[]⟩, vi 0, vi 0, vN, vF], [vi 3, vi 0, vi 0, .str false ⟨#[]⟩, vi 0, vi 0, vN, vF], [vi 4, vi 0, vi 2, .str false ⟨#[]⟩, vi 1, vj p, vN, vF]],
  .row 35 8 [[vi 1, vi 0, vi 1, .str false ⟨#[]⟩, vi 0, vi 0, vN, vF], [vi 2, vi 0, vi 0, .str false ⟨#[]⟩, vi 0, vi 0, vN, vF], [vi 3, vi 0, vi 4, .str false ⟨#[]⟩, vi 0, vi 0, vN, vF]],
  .row 104 9 [[vi 7, vi 1, vi 0, vi 0, vi 9, .str false ⟨#[]⟩, vi 1, vi 500, vi 4]],
  .blk [vi 0, vi 0, vi 0, .str false ⟨#[]⟩, vi 0, vi 0, vN, vF] 35,
  .row 127 2 [[vi 1, vi 5]]]
def s0_L (sa sb p : Int) (q : Value) (g : Nat → Value) : Obs := [(true, true), (true, true), (!ilt p (oN 1) && !ilt (oN 65535) p && true && true && true, true), (true, true), (true, true), (true, true), (true, true), (true, true), (true, true), (true, true), (false, false), (true, true), (true, true), (true, true), (true, true), (true, true), (true, true), (true, true), (true, true), (true, true), (true, true), (true, true), (true, true), (true, true), (true, true), (true, true), (true, true), (true, true)]
def s0_p (sa sb p : Int) (q : Value) (g : Nat → Value) : List (Pl Nat) := [(MS.getD 0 .none),
  (MS.getD 1 .none),
  (MS.getD 2 .none),
  .none,
  .blk [vj sa, vi 1, .nm 16, .nm 17, .nm 19, .nm 20, .nm 22] 170,
  .map 0 [(.i 1, .ptr 11 0)],
  .blk [vj sa, .ptr 4 0, .nm 5, vi 1, vi 1, vi 4, .sl 290 9 0 1, vN, vN] 88,
  .blk [vj sb, vi 0, .nm 13, .nm 14, .nm 36, .nm 37, .nm 39] 170,
  .map 0 [(.i 1, .ptr 12 0), (.i 2, .ptr 40 0)],
  .blk [vj sb, .ptr 7 0, .nm 8, vi 2, vi 1, vi 4, vN, vN, vN] 88,
  .blk [.ptr 6 0, .ptr 9 0, .sl 392 9 0 1, vj 7, .sl 43 8 0 3, .sl 42 8 0 4] 49,
  .blk [.ptr 26 0, vi 1, vi 6, vT, vi 0, vi 0, vi 0, vi 1, vj p, vi 2, vi 80, vN, vi 4, vi 0] 74,
  .blk [.lit (.pointer none), vi 1, vi 6, vT, vi 0, vi 3, vi 500, vi 0, vi 80, vi 0, vi 0, vN, vi 0, vi 0] 74,
  .map 1 [(.p 6 80, vi 1)],
  .map 0 [(.i 1, .sl 15 2 0 1)],
  .row 220 2 [[vi 6, vi 80]],
  .map 1 [(.p 6 p, vi 1)],
  .map 0 [(.i 1, .sl 18 2 0 1)],
  .row 220 2 [[vi 6, vj p]],
  .map 2 [(.t p 2 80, vi 1)],
  .map 0 [(.i 1, .sl 21 3 0 1)],
  .row 224 3 [[vj p, vi 2, vi 80]],
  .map 0 [(.i p, vi 1)],
  .none,
  ringZ,
  .blk [.sl 24 1 0 2048, vi 0, vi 0, vN, vi 0] 263,
  .blk [.ptr 27 0, .ptr 28 0, .ptr 41 0, .str false ⟨#[108, 111, 115, 116]⟩, vi 1, vi 2049, vi 2048, vi 500, vT, vF, vi 5, .ptr 25 0, .sq 29 1048576, vi 2048, vi 2048, vF, vi 0, vF, vi 0, vF, vi 0, vi 0, vj p, vi 80, .sq 23 1048576, vi 500, vi 2048, vi 2048, vi 3, vi 0, vT, vj 7, vj 8, vj 1, vF, vi 0, vi 0] 119,
  .blk [vi 1, vi 5, vi 5, vN, .sl 177 2 0 1] 298,
  .blk [vT, vi 8, vi 2, vF, vi 5, vi 3, vj 1] 280,
  .none,
  ringZ,
  .blk [.sl 30 1 0 2048, vi 0, vi 0, vN, vi 0] 263,
  .blk [.ptr 33 0, .ptr 34 0, .ptr 35 0, .str false ⟨#[]⟩, vi 1, vi 2049, vi 2048, vi 500, vT, vF, vi 0, .ptr 31 0, .sq 23 1048576, vi 2048, vi 2048, vF, vi 0, vF, vi 0, vF, vi 0, vi 0, vi 80, vj p, .sq 29 1048576, vi 500, vi 2048, vi 2048, vi 3, vi 0, vF, vi 0, vi 0, vi 0, vF, vi 0, vi 0] 119,
  .blk [vi 1, vi 1, vi 0, vN, vN] 298,
  .blk [vT, vi 8, vi 2, vF, vi 1, vi 0, vi 0] 280,
  .blk [vi 500, vi 1000, vi 65535, vF, vi 0, .fn (.func 306) [] [], .fn (.func 307) [] []] 339,
  .map 2 [(.t 80 1 p, vi 2)],
  .map 0 [(.i 2, .sl 38 3 0 1)],
  .row 224 3 [[vi 80, vi 1, vj p]],
  .map 0 [(.i 80, vi 1)],
  .blk [.ptr 32 0, vi 2, vi 6, vT, vi 0, vi 0, vi 0, vi 2, vi 80, vi 1, vj p, vN, vi 0, vi 0] 74,
  .blk [vi 500, vi 500, vi 1000, vF, vi 0, .fn (.func 306) [] [], .fn (.func 307) [] []] 339,
  .row 35 8 [[vi 1, vi 0, vi 1, .str false ⟨#[]⟩, vi 0, vi 0, vN, vF], [vi 2, vi 0, vi 80, .str false ⟨#[]⟩, vi 0, vi 0, vN, vF], [vi 3, vi 0, vi 0, .str false ⟨#[]⟩, vi 0, vi 0, vN, vF], [vi 4, vi 0, vi 2, .str false ⟨#[]⟩, vi 1, vj p, vN, vF]],
  .row 35 8 [[vi 1, vi 0, vi 1, .str false ⟨#[]⟩, vi 0, vi 0, vN, vF], [vi 2, vi 0, vi 0, .str false ⟨#[]⟩, vi 0, vi 0, vN, vF], [vi 3, vi 0, vi 4, .str false ⟨#[]⟩, vi 0, vi 0, vN, vF]],
  .row 104 9 [[vi 7, vi 1, vi 0, vi 0, vi 9, .str false ⟨#[]⟩, vi 1, vi 500, vi 4]],
  .blk [vi 0, vi 0, vi 0, .str false ⟨#[]⟩, vi 0, vi 0, vN, vF] 35,
  .row 127 2 [[vi 1, vi 5]]]
theorem s0_run (sa sb p : Int) (q : Value) (g : Nat → Value) : runF (fun _ => none) ((evF Tryz.prog kofX tblQ 400).code 90 false tmL (toS (3) (0) g) [] kEnd) [true, true, true, true, true, true, true, true, true, true, true, true, true, true, true, false] (toA (6) (3) (4) (0) (0) sa sb p q).length (trM 0 (toA (6) (3) (4) (0) (0) sa sb p q) .z) [] 0 0 (endC 90 [6, 7, 8, 10, 11, 12, 13, 14] [0, 1, 2, 3, 4, 5, 6, 7, 8, 9, 10, 11, 12, 13, 14, 15, 16, 17, 18, 19, 20, 21, 22, 23, 24, 25, 26, 27, 28, 29, 30, 31, 32, 33, 34, 35, 36, 37, 38, 39, 40, 41, 42, 43, 290, 45, 177]) = some (s0_L sa sb p q g, .normal, [vF, vT, .ptr 10 0, vi 4, vj 1, .ptr 45 0, vF, vj 4], s0_p sa sb p q g) := by kernel_rfl
def qB_L (n i S V c b sa sb p : Int) (q : Value) (g : Nat → Value) : Obs := [(inR (i.add (oN 1)), true), (inR (c.add (oN 0)), true), (true, true), (true, true), (!ilt (IntKind.u64.wrap (IntKind.u64.wrap (n.add (oN 1)) - IntKind.u64.wrap S)) (IntKind.u64.wrap V), false), (!ilt (n.add (oN 1)) S, true), (!ilt (n.add (oN 1)) S, true), (!ilt (n.add (oN 1)) S, true), (!ilt (n.add (oN 1)) S, true), (!ilt (n.add (oN 1)) S, true), (!ilt (n.add (oN 1)) S, true), (!ilt (n.add (oN 1)) S, true), (!ilt (n.add (oN 1)) S, true), (!ilt (n.add (oN 1)) S, true), (!ilt (n.add (oN 1)) S, true), (!ilt (n.add (oN 1)) S, true), (inR (n.add (oN 1)), true), (ilt i (oN 3200), true), (ilt i (oN 3200), true), (ilt i (oN 3200), true)]
def qB_p (n i S V c b sa sb p : Int) (q : Value) (g : Nat → Value) : List (Pl Nat) := [(MS.getD 0 .none),
  (MS.getD 1 .none),
  (MS.getD 2 .none),
  .none,
  .blk [vj sa, vi 1, .nm 16, .nm 17, .nm 19, .nm 20, .nm 22] 170,
  .map 0 [(.i 1, .ptr 11 0)],
  .blk [vj sa, .ptr 4 0, .nm 5, vi 1, vi 1, vi 4, .sl 163 9 0 1, vN, vN] 88,
  .blk [vj sb, vi 0, .nm 13, .nm 14, .nm 36, .nm 37, .nm 39] 170,
  .map 0 [(.i 1, .ptr 12 0), (.i 2, .ptr 40 0)],
  .blk [vj sb, .ptr 7 0, .nm 8, vi 2, vi 1, vi 4, vN, vN, vN] 88,
  .blk [.ptr 6 0, .ptr 9 0, vN, vj (Int.add n 1), .sl 43 8 0 3, .sl 42 8 0 4] 49,
  .blk [.ptr 26 0, vi 1, vi 6, vT, vi 0, vi 0, vi 0, vi 1, vj p, vi 2, vi 80, vN, vi 4, vi 0] 74,
  .blk [.lit (.pointer none), vi 1, vi 6, vT, vi 0, vi 3, vi 500, vi 0, vi 80, vi 0, vi 0, vN, vi 0, vi 0] 74,
  .map 1 [(.p 6 80, vi 1)],
  .map 0 [(.i 1, .sl 15 2 0 1)],
  .row 220 2 [[vi 6, vi 80]],
  .map 1 [(.p 6 p, vi 1)],
  .map 0 [(.i 1, .sl 18 2 0 1)],
  .row 220 2 [[vi 6, vj p]],
  .map 2 [(.t p 2 80, vi 1)],
  .map 0 [(.i 1, .sl 21 3 0 1)],
  .row 224 3 [[vj p, vi 2, vi 80]],
  .map 0 [(.i p, vi 1)],
  .none,
  ringZ,
  .blk [.sl 24 1 0 2048, vi 0, vi 0, vN, vi 0] 263,
  .blk [.ptr 27 0, .ptr 28 0, .ptr 41 0, .str false ⟨#[108, 111, 115, 116]⟩, vi 1, vi 2049, vi 2048, vi 500, vT, vF, vi 5, .ptr 25 0, .sq 29 1048576, vi 2048, vi 2048, vF, vi 0, vF, vi 0, vF, vi 0, vi 0, vj p, vi 80, .sq 23 1048576, vi 500, vi 2048, vi 2048, vi 3, vi 0, vT, vj S, vj V, vj c, vF, vi 0, vi 0] 119,
  .blk [vi 1, vi 5, vi 5, vN, .sl 46 2 0 1] 298,
  .blk [vT, vi 8, vi 2, vF, vi 5, vi 3, vj b] 280,
  .none,
  ringZ,
  .blk [.sl 30 1 0 2048, vi 0, vi 0, vN, vi 0] 263,
  .blk [.ptr 33 0, .ptr 34 0, .ptr 35 0, .str false ⟨#[]⟩, vi 1, vi 2049, vi 2048, vi 500, vT, vF, vi 0, .ptr 31 0, .sq 23 1048576, vi 2048, vi 2048, vF, vi 0, vF, vi 0, vF, vi 0, vi 0, vi 80, vj p, .sq 29 1048576, vi 500, vi 2048, vi 2048, vi 3, vi 0, vF, vi 0, vi 0, vi 0, vF, vi 0, vi 0] 119,
  .blk [vi 1, vi 1, vi 0, vN, vN] 298,
  .blk [vT, vi 8, vi 2, vF, vi 1, vi 0, vi 0] 280,
  .blk [vi 500, vi 1000, vi 65535, vF, vi 0, .fn (.func 306) [] [], .fn (.func 307) [] []] 339,
  .map 2 [(.t 80 1 p, vi 2)],
  .map 0 [(.i 2, .sl 38 3 0 1)],
  .row 224 3 [[vi 80, vi 1, vj p]],
  .map 0 [(.i 80, vi 1)],
  .blk [.ptr 32 0, vi 2, vi 6, vT, vi 0, vi 0, vi 0, vi 2, vi 80, vi 1, vj p, vN, vi 0, vi 0] 74,
  .blk [vi 500, vi 500, vi 1000, vF, vi 0, .fn (.func 306) [] [], .fn (.func 307) [] []] 339,
  .row 35 8 [[vi 1, vi 0, vi 1, .str false ⟨#[]⟩, vi 0, vi 0, vN, vF], [vi 2, vi 0, vi 80, .str false ⟨#[]⟩, vi 0, vi 0, vN, vF], [vi 3, vi 0, vi 0, .str false ⟨#[]⟩, vi 0, vi 0, vN, vF], [vi 4, vi 0, vi 2, .str false ⟨#[]⟩, vi 1, vj p, vN, vF]],
  .row 35 8 [[vi 1, vi 0, vi 1, .str false ⟨#[]⟩, vi 0, vi 0, vN, vF], [vi 2, vi 0, vi 0, .str false ⟨#[]⟩, vi 0, vi 0, vN, vF], [vi 3, vi 0, vi 4, .str false ⟨#[]⟩, vi 0, vi 0, vN, vF]],
  .row 104 9 [[vi 7, vi 1, vi 0, vi 0, vi 9, .str false ⟨#[]⟩, vi 1, vi 500, vi 4]],
  .blk [vi 0, vi 0, vi 0, .str false ⟨#[]⟩, vi 0, vi 0, vN, vF] 35,
  .row 127 2 [[vi 1, vi 5]]]
theorem qB_run (n i S V c b sa sb p : Int) (q : Value) (g : Nat → Value) : runF (fun _ => none) ((evF Tryz.prog kofX tblQ 400).code 90 false tmL (toS i c g) [] kEnd) [true, true, true, true, true, true, true, true, true, true, true, true, true, true, false] (toB n S V c b sa sb p q).length (trM 0 (toB n S V c b sa sb p q) .z) [] 0 0 (endC 90 [6, 7, 8, 10, 11, 12, 13, 14] [0, 1, 2, 3, 4, 5, 6, 7, 8, 9, 10, 11, 12, 13, 14, 15, 16, 17, 18, 19, 20, 21, 22, 23, 24, 25, 26, 27, 28, 29, 30, 31, 32, 33, 34, 35, 36, 37, 38, 39, 40, 41, 42, 43, 163, 45, 46]) = some (qB_L n i S V c b sa sb p q g, .normal, [vF, vT, .ptr 10 0, vi 4, vj (Int.add c 0), .ptr 45 0, vF, vj (Int.add i 1)], qB_p n i S V c b sa sb p q g) := by kernel_rfl
def sX_L (sa sb p : Int) (q : Value) (g : Nat → Value) : Obs := [(true, true), (true, true), (!ilt p (oN 1) && !ilt (oN 65535) p && true && true && true, true), (true, true), (true, true), (true, true), (true, true), (true, true), (true, true), (true, true), (false, false), (true, true), (true, true), (true, true), (true, true), (true, true), (true, true), (true, true), (true, true), (true, true), (true, true), (true, true), (true, true), (true, true), (true, true), (true, true), (true, true), (true, true)]
def sX_p (n S V c b sa sb p : Int) : List (Pl Nat) := [(MS.getD 0 .none),
  (MS.getD 1 .none),
  (MS.getD 2 .none),
  .none,
  .blk [vj sa, vi 1, .nm 16, .nm 17, .nm 19, .nm 20, .nm 22] 170,
  .map 0 [(.i 1, .ptr 11 0)],
  .blk [vj sa, .ptr 4 0, .nm 5, vi 1, vi 1, vi 4, .sl 291 9 0 1, vN, vN] 88,
  .blk [vj sb, vi 0, .nm 13, .nm 14, .nm 36, .nm 37, .nm 39] 170,
  .map 0 [(.i 1, .ptr 12 0), (.i 2, .ptr 40 0)],
  .blk [vj sb, .ptr 7 0, .nm 8, vi 2, vi 1, vi 4, vN, vN, vN] 88,
  .blk [.ptr 6 0, .ptr 9 0, .sl 393 9 0 1, vj n, .sl 43 8 0 3, .sl 42 8 0 4] 49,
  .blk [.ptr 26 0, vi 1, vi 6, vT, vi 0, vi 0, vi 0, vi 1, vj p, vi 2, vi 80, vN, vi 4, vi 0] 74,
  .blk [.lit (.pointer none), vi 1, vi 6, vT, vi 0, vi 3, vi 500, vi 0, vi 80, vi 0, vi 0, vN, vi 0, vi 0] 74,
  .map 1 [(.p 6 80, vi 1)],
  .map 0 [(.i 1, .sl 15 2 0 1)],
  .row 220 2 [[vi 6, vi 80]],
  .map 1 [(.p 6 p, vi 1)],
  .map 0 [(.i 1, .sl 18 2 0 1)],
  .row 220 2 [[vi 6, vj p]],
  .map 2 [(.t p 2 80, vi 1)],
  .map 0 [(.i 1, .sl 21 3 0 1)],
  .row 224 3 [[vj p, vi 2, vi 80]],
  .map 0 [(.i p, vi 1)],
  .none,
  ringZ,
  .blk [.sl 24 1 0 2048, vi 0, vi 0, vN, vi 0] 263,
  .blk [.ptr 27 0, .ptr 28 0, .ptr 41 0, .str false ⟨#[108, 111, 115, 116]⟩, vi 1, vi 2049, vi 2048, vi 500, vT, vF, vi 5, .ptr 25 0, .sq 29 1048576, vi 2048, vi 2048, vF, vi 0, vF, vi 0, vF, vi 0, vi 0, vj p, vi 80, .sq 23 1048576, vi 500, vi 2048, vi 2048, vi 3, vi 0, vT, vj S, vj V, vj c, vF, vi 0, vi 0] 119,
  .blk [vi 1, vi 5, vi 5, vN, .sl 178 2 0 1] 298,
  .blk [vT, vi 8, vi 2, vF, vi 5, vi 3, vj b] 280,
  .none,
  ringZ,
  .blk [.sl 30 1 0 2048, vi 0, vi 0, vN, vi 0] 263,
  .blk [.ptr 33 0, .ptr 34 0, .ptr 35 0, .str false ⟨#[]⟩, vi 1, vi 2049, vi 2048, vi 500, vT, vF, vi 0, .ptr 31 0, .sq 23 1048576, vi 2048, vi 2048, vF, vi 0, vF, vi 0, vF, vi 0, vi 0, vi 80, vj p, .sq 29 1048576, vi 500, vi 2048, vi 2048, vi 3, vi 0, vF, vi 0, vi 0, vi 0, vF, vi 0, vi 0] 119,
  .blk [vi 1, vi 1, vi 0, vN, vN] 298,
  .blk [vT, vi 8, vi 2, vF, vi 1, vi 0, vi 0] 280,
  .blk [vi 500, vi 1000, vi 65535, vF, vi 0, .fn (.func 306) [] [], .fn (.func 307) [] []] 339,
  .map 2 [(.t 80 1 p, vi 2)],
  .map 0 [(.i 2, .sl 38 3 0 1)],
  .row 224 3 [[vi 80, vi 1, vj p]],
  .map 0 [(.i 80, vi 1)],
  .blk [.ptr 32 0, vi 2, vi 6, vT, vi 0, vi 0, vi 0, vi 2, vi 80, vi 1, vj p, vN, vi 0, vi 0] 74,
  .blk [vi 500, vi 500, vi 1000, vF, vi 0, .fn (.func 306) [] [], .fn (.func 307) [] []] 339,
  .row 35 8 [[vi 1, vi 0, vi 1, .str false ⟨#[]⟩, vi 0, vi 0, vN, vF], [vi 2, vi 0, vi 80, .str false ⟨#[]⟩, vi 0, vi 0, vN, vF], [vi 3, vi 0, vi 0, .str false ⟨#[]⟩, vi 0, vi 0, vN, vF], [vi 4, vi 0, vi 2, .str false ⟨#[]⟩, vi 1, vj p, vN, vF]],
  .row 35 8 [[vi 1, vi 0, vi 1, .str false ⟨#[]⟩, vi 0, vi 0, vN, vF], [vi 2, vi 0, vi 0, .str false ⟨#[]⟩, vi 0, vi 0, vN, vF], [vi 3, vi 0, vi 4, .str false ⟨#[]⟩, vi 0, vi 0, vN, vF]],
  .row 104 9 [[vi 7, vi 1, vi 0, vi 0, vi 9, .str false ⟨#[]⟩, vi 1, vi 500, vi 4]],
  .blk [vi 0, vi 0, vi 0, .str false ⟨#[]⟩, vi 0, vi 0, vN, vF] 35,
  .row 127 2 [[vi 1, vi 5]]]
theorem s1_run (sa sb p : Int) (q : Value) (g : Nat → Value) : runF (fun _ => none) ((evF Tryz.prog kofX tblQ 400).code 90 false tmL (toS (11) (1) g) [] kEnd) [true, true, true, true, true, true, true, true, true, true, true, true, true, true, true, false] (toB (14) (7) (8) (1) (1) sa sb p q).length (trM 0 (toB (14) (7) (8) (1) (1) sa sb p q) .z) [] 0 0 (endC 90 [6, 7, 8, 10, 11, 12, 13, 14] [0, 1, 2, 3, 4, 5, 6, 7, 8, 9, 10, 11, 12, 13, 14, 15, 16, 17, 18, 19, 20, 21, 22, 23, 24, 25, 26, 27, 28, 29, 30, 31, 32, 33, 34, 35, 36, 37, 38, 39, 40, 41, 42, 43, 291, 45, 178]) = some (sX_L sa sb p q g, .normal, [vF, vT, .ptr 10 0, vi 4, vj 2, .ptr 45 0, vF, vj 12], sX_p 15 15 16 2 2 sa sb p) := by kernel_rfl
theorem s2_run (sa sb p : Int) (q : Value) (g : Nat → Value) : runF (fun _ => none) ((evF Tryz.prog kofX tblQ 400).code 90 false tmL (toS (27) (2) g) [] kEnd) [true, true, true, true, true, true, true, true, true, true, true, true, true, true, true, false] (toB (30) (15) (16) (2) (2) sa sb p q).length (trM 0 (toB (30) (15) (16) (2) (2) sa sb p q) .z) [] 0 0 (endC 90 [6, 7, 8, 10, 11, 12, 13, 14] [0, 1, 2, 3, 4, 5, 6, 7, 8, 9, 10, 11, 12, 13, 14, 15, 16, 17, 18, 19, 20, 21, 22, 23, 24, 25, 26, 27, 28, 29, 30, 31, 32, 33, 34, 35, 36, 37, 38, 39, 40, 41, 42, 43, 291, 45, 178]) = some (sX_L sa sb p q g, .normal, [vF, vT, .ptr 10 0, vi 4, vj 3, .ptr 45 0, vF, vj 28], sX_p 31 31 32 3 3 sa sb p) := by kernel_rfl
theorem s3_run (sa sb p : Int) (q : Value) (g : Nat → Value) : runF (fun _ => none) ((evF Tryz.prog kofX tblQ 400).code 90 false tmL (toS (59) (3) g) [] kEnd) [true, true, true, true, true, true, true, true, true, true, true, true, true, true, true, false] (toB (62) (31) (32) (3) (3) sa sb p q).length (trM 0 (toB (62) (31) (32) (3) (3) sa sb p q) .z) [] 0 0 (endC 90 [6, 7, 8, 10, 11, 12, 13, 14] [0, 1, 2, 3, 4, 5, 6, 7, 8, 9, 10, 11, 12, 13, 14, 15, 16, 17, 18, 19, 20, 21, 22, 23, 24, 25, 26, 27, 28, 29, 30, 31, 32, 33, 34, 35, 36, 37, 38, 39, 40, 41, 42, 43, 291, 45, 178]) = some (sX_L sa sb p q g, .normal, [vF, vT, .ptr 10 0, vi 4, vj 4, .ptr 45 0, vF, vj 60], sX_p 63 63 64 4 4 sa sb p) := by kernel_rfl
theorem s4_run (sa sb p : Int) (q : Value) (g : Nat → Value) : runF (fun _ => none) ((evF Tryz.prog kofX tblQ 400).code 90 false tmL (toS (123) (4) g) [] kEnd) [true, true, true, true, true, true, true, true, true, true, true, true, true, true, true, false] (toB (126) (63) (64) (4) (4) sa sb p q).length (trM 0 (toB (126) (63) (64) (4) (4) sa sb p q) .z) [] 0 0 (endC 90 [6, 7, 8, 10, 11, 12, 13, 14] [0, 1, 2, 3, 4, 5, 6, 7, 8, 9, 10, 11, 12, 13, 14, 15, 16, 17, 18, 19, 20, 21, 22, 23, 24, 25, 26, 27, 28, 29, 30, 31, 32, 33, 34, 35, 36, 37, 38, 39, 40, 41, 42, 43, 291, 45, 178]) = some (sX_L sa sb p q g, .normal, [vF, vT, .ptr 10 0, vi 4, vj 5, .ptr 45 0, vF, vj 124], sX_p 127 127 128 5 5 sa sb p) := by kernel_rfl
theorem s5_run (sa sb p : Int) (q : Value) (g : Nat → Value) : runF (fun _ => none) ((evF Tryz.prog kofX tblQ 400).code 90 false tmL (toS (251) (5) g) [] kEnd) [true, true, true, true, true, true, true, true, true, true, true, true, true, true, true, false] (toB (254) (127) (128) (5) (5) sa sb p q).length (trM 0 (toB (254) (127) (128) (5) (5) sa sb p q) .z) [] 0 0 (endC 90 [6, 7, 8, 10, 11, 12, 13, 14] [0, 1, 2, 3, 4, 5, 6, 7, 8, 9, 10, 11, 12, 13, 14, 15, 16, 17, 18, 19, 20, 21, 22, 23, 24, 25, 26, 27, 28, 29, 30, 31, 32, 33, 34, 35, 36, 37, 38, 39, 40, 41, 42, 43, 291, 45, 178]) = some (sX_L sa sb p q g, .normal, [vF, vT, .ptr 10 0, vi 4, vj 6, .ptr 45 0, vF, vj 252], sX_p 255 255 240 6 6 sa sb p) := by kernel_rfl
theorem s6_run (sa sb p : Int) (q : Value) (g : Nat → Value) : runF (fun _ => none) ((evF Tryz.prog kofX tblQ 400).code 90 false tmL (toS (491) (6) g) [] kEnd) [true, true, true, true, true, true, true, true, true, true, true, true, true, true, true, false] (toB (494) (255) (240) (6) (6) sa sb p q).length (trM 0 (toB (494) (255) (240) (6) (6) sa sb p q) .z) [] 0 0 (endC 90 [6, 7, 8, 10, 11, 12, 13, 14] [0, 1, 2, 3, 4, 5, 6, 7, 8, 9, 10, 11, 12, 13, 14, 15, 16, 17, 18, 19, 20, 21, 22, 23, 24, 25, 26, 27, 28, 29, 30, 31, 32, 33, 34, 35, 36, 37, 38, 39, 40, 41, 42, 43, 291, 45, 178]) = some (sX_L sa sb p q g, .normal, [vF, vT, .ptr 10 0, vi 4, vj 7, .ptr 45 0, vF, vj 492], sX_p 495 495 240 7 7 sa sb p) := by kernel_rfl
theorem s7_run (sa sb p : Int) (q : Value) (g : Nat → Value) : runF (fun _ => none) ((evF Tryz.prog kofX tblQ 400).code 90 false tmL (toS (731) (7) g) [] kEnd) [true, true, true, true, true, true, true, true, true, true, true, true, true, true, true, false] (toB (734) (495) (240) (7) (7) sa sb p q).length (trM 0 (toB (734) (495) (240) (7) (7) sa sb p q) .z) [] 0 0 (endC 90 [6, 7, 8, 10, 11, 12, 13, 14] [0, 1, 2, 3, 4, 5, 6, 7, 8, 9, 10, 11, 12, 13, 14, 15, 16, 17, 18, 19, 20, 21, 22, 23, 24, 25, 26, 27, 28, 29, 30, 31, 32, 33, 34, 35, 36, 37, 38, 39, 40, 41, 42, 43, 291, 45, 178]) = some (sX_L sa sb p q g, .normal, [vF, vT, .ptr 10 0, vi 4, vj 8, .ptr 45 0, vF, vj 732], sX_p 735 735 240 8 8 sa sb p) := by kernel_rfl
theorem s8_run (sa sb p : Int) (q : Value) (g : Nat → Value) : runF (fun _ => none) ((evF Tryz.prog kofX tblQ 400).code 90 false tmL (toS (971) (8) g) [] kEnd) [true, true, true, true, true, true, true, true, true, true, true, true, true, true, true, false] (toB (974) (735) (240) (8) (8) sa sb p q).length (trM 0 (toB (974) (735) (240) (8) (8) sa sb p q) .z) [] 0 0 (endC 90 [6, 7, 8, 10, 11, 12, 13, 14] [0, 1, 2, 3, 4, 5, 6, 7, 8, 9, 10, 11, 12, 13, 14, 15, 16, 17, 18, 19, 20, 21, 22, 23, 24, 25, 26, 27, 28, 29, 30, 31, 32, 33, 34, 35, 36, 37, 38, 39, 40, 41, 42, 43, 291, 45, 178]) = some (sX_L sa sb p q g, .normal, [vF, vT, .ptr 10 0, vi 4, vj 9, .ptr 45 0, vF, vj 972], sX_p 975 975 240 9 8 sa sb p) := by kernel_rfl
theorem s9_run (sa sb p : Int) (q : Value) (g : Nat → Value) : runF (fun _ => none) ((evF Tryz.prog kofX tblQ 400).code 90 false tmL (toS (1211) (9) g) [] kEnd) [true, true, true, true, true, true, true, true, true, true, true, true, true, true, true, false] (toB (1214) (975) (240) (9) (8) sa sb p q).length (trM 0 (toB (1214) (975) (240) (9) (8) sa sb p q) .z) [] 0 0 (endC 90 [6, 7, 8, 10, 11, 12, 13, 14] [0, 1, 2, 3, 4, 5, 6, 7, 8, 9, 10, 11, 12, 13, 14, 15, 16, 17, 18, 19, 20, 21, 22, 23, 24, 25, 26, 27, 28, 29, 30, 31, 32, 33, 34, 35, 36, 37, 38, 39, 40, 41, 42, 43, 291, 45, 178]) = some (sX_L sa sb p q g, .normal, [vF, vT, .ptr 10 0, vi 4, vj 10, .ptr 45 0, vF, vj 1212], sX_p 1215 1215 240 10 8 sa sb p) := by kernel_rfl
theorem s10_run (sa sb p : Int) (q : Value) (g : Nat → Value) : runF (fun _ => none) ((evF Tryz.prog kofX tblQ 400).code 90 false tmL (toS (1451) (10) g) [] kEnd) [true, true, true, true, true, true, true, true, true, true, true, true, true, true, true, false] (toB (1454) (1215) (240) (10) (8) sa sb p q).length (trM 0 (toB (1454) (1215) (240) (10) (8) sa sb p q) .z) [] 0 0 (endC 90 [6, 7, 8, 10, 11, 12, 13, 14] [0, 1, 2, 3, 4, 5, 6, 7, 8, 9, 10, 11, 12, 13, 14, 15, 16, 17, 18, 19, 20, 21, 22, 23, 24, 25, 26, 27, 28, 29, 30, 31, 32, 33, 34, 35, 36, 37, 38, 39, 40, 41, 42, 43, 291, 45, 178]) = some (sX_L sa sb p q g, .normal, [vF, vT, .ptr 10 0, vi 4, vj 11, .ptr 45 0, vF, vj 1452], sX_p 1455 1455 240 11 8 sa sb p) := by kernel_rfl
theorem s11_run (sa sb p : Int) (q : Value) (g : Nat → Value) : runF (fun _ => none) ((evF Tryz.prog kofX tblQ 400).code 90 false tmL (toS (1691) (11) g) [] kEnd) [true, true, true, true, true, true, true, true, true, true, true, true, true, true, true, false] (toB (1694) (1455) (240) (11) (8) sa sb p q).length (trM 0 (toB (1694) (1455) (240) (11) (8) sa sb p q) .z) [] 0 0 (endC 90 [6, 7, 8, 10, 11, 12, 13, 14] [0, 1, 2, 3, 4, 5, 6, 7, 8, 9, 10, 11, 12, 13, 14, 15, 16, 17, 18, 19, 20, 21, 22, 23, 24, 25, 26, 27, 28, 29, 30, 31, 32, 33, 34, 35, 36, 37, 38, 39, 40, 41, 42, 43, 291, 45, 178]) = some (sX_L sa sb p q g, .normal, [vF, vT, .ptr 10 0, vi 4, vj 12, .ptr 45 0, vF, vj 1692], sX_p 1695 1695 240 12 8 sa sb p) := by kernel_rfl
end Go.Proofs.YtockaipodnapjaaGreatDoor

