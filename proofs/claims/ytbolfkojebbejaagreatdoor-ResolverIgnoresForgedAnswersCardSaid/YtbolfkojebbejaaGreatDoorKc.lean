/- The reference's cache of chapter 20: data, Len, time, thing, ahead, keep. -/
import Derived.Test.YtbolfkojebbejaaGreatDoorRw
import Derived.Test.YtbolfkojebbejaaGreatDoorBc
set_option linter.unusedVariables false
set_option maxRecDepth 100000
set_option maxHeartbeats 32000000
namespace Go.Proofs.YtbolfkojebbejaaGreatDoor
open Go.RowKit Go.Sort

abbrev itA (e : En) : Array Value := #[.string e.nm, .int .i64 e.kd, .int .i64 0, .int .i64 e.ad, .string e.to, .int .i64 e.ex]
def cIt (e : En) : List Value := (itA e).toList
abbrev rowIt (v : Value) (l : List En) : Res := rowR v 141 6 l.length (l.flatMap cIt)
abbrev blkI (c : Nat) (v : Value) : Res := blkR c (.cells #[v] 46)
def resI (c : Nat) (l : List En) : Res := exR fun v : Value => sepR [blkI c v, rowIt v l]
section
variable {w0 w : World} {D : Nat → Prop} {L : List Res} {c : Nat} {l : List En}
theorem openI' (h : Own w0 D w (resI c l :: L)) : ∃ v, Own w0 D w (blkI c v :: rowIt v l :: L) := by
 obtain ⟨v, h⟩ := Own.openExC h
 exact ⟨v, Own.openC h⟩
theorem shutI' {v : Value} (h : Own w0 D w (blkI c v :: rowIt v l :: L)) : Own w0 D w (resI c l :: L) := Own.shutExC (f := fun v : Value => sepR [blkI c v, rowIt v l]) v (Own.shutC (Rs := [blkI c v, rowIt v l]) h)
end
theorem run_bsIt (nm : ByteArray) (kd ad : Int) (to : ByteArray) (ex : Int) (w : World) : (Instr.buildSlice 44 1 #[(0, .agg #[.string nm, .int .i64 kd, .int .i64 0, .int .i64 ad, .string to, .int .i64 ex])]).run Tryz.prog w = .ok (.slice (some ⟨w.heap.size, 0, none⟩) 1 1) (w.alloc (.cells #[.string nm, .int .i64 kd, .int .i64 0, .int .i64 ad, .string to, .int .i64 ex] 141)) := by kernel_rfl
theorem run_bIt (nm : ByteArray) (kd tt ad : Int) (to : ByteArray) (ex : Int) (w : World) : (Instr.build 141 #[(0, .agg #[.string nm, .int .i64 kd, .int .i64 tt, .int .i64 ad, .string to]), (1, .int .i64 ex)]).run Tryz.prog w = .ok (.agg #[.string nm, .int .i64 kd, .int .i64 tt, .int .i64 ad, .string to, .int .i64 ex]) w := by kernel_rfl
theorem run_bRn (nm : ByteArray) (w : World) : (Instr.build 49 #[(0, .string nm)]).run Tryz.prog w = .ok (.agg #[.string nm, .int .i64 0, .int .i64 0, .int .i64 0, .string ⟨#[]⟩]) w := by kernel_rfl
section
attribute [local go_sem ↓] run_bsIt run_neRc run_bIt run_bRn
end
section
attribute [local go_sem ↓] run_bsRc
end
end Go.Proofs.YtbolfkojebbejaaGreatDoor
