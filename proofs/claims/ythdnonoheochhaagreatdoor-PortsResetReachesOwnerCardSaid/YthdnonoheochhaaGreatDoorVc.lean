/- A machine of symbolic values: a call between two memories that are told. -/
import Derived.Test.YthdnonoheochhaaGreatDoorVf
namespace Go.Proofs.YthdnonoheochhaaGreatDoor
open Go.RowKit
set_option linter.unusedVariables false
section
variable {A : Type} (ar : A → List Value → Value → Res)
def Pl.mv : Pl A → Bool
  | .loop _ _ _ _ _ _ _ => false
  | _ => true
end
end Go.Proofs.YthdnonoheochhaaGreatDoor
namespace Go.Proofs.YthdnonoheochhaaGreatDoor
open Go.RowKit
set_option linter.unusedVariables false
section
variable {A : Type} {ar : A → List Value → Value → Res} {P : Program} {kof : TypeId → Option (Nat × Bool)} {tbl : FuncId → Option (List V → T A)}
end
end Go.Proofs.YthdnonoheochhaaGreatDoor
namespace Go.Proofs.YthdnonoheochhaaGreatDoor
open Go.RowKit
set_option linter.unusedVariables false
mutual
def V.ltB (k : Nat) : V → Bool
  | .ptr n _ | .nm n | .el n _ _ _ | .sl n _ _ _ | .sq n _ | .yl n | .ns n => Nat.blt n k
  | .fn _ a b => ltL k a && ltL k b
  | .ifc _ v => v.ltB k
  | .agg l | .tup l => ltL k l
  | .int _ _ _ | .bool _ _ | .str _ _ | .lit _ => true
def ltL (k : Nat) : List V → Bool
  | [] => true
  | v :: l => v.ltB k && ltL k l
end
section
variable {A : Type} {ar : A → List Value → Value → Res} {P : Program} {kof : TypeId → Option (Nat × Bool)} {tbl : FuncId → Option (List V → T A)}
def Pl.ltB (k : Nat) : Pl A → Bool
  | .blk cs _ => ltL k cs
  | .row _ _ xs => ltL k xs.flatten
  | .map _ es => ltL k (es.map (·.2))
  | .abs _ l => ltL k l
  | .glb _ cs _ => ltL k cs
  | .rng r _ es _ => Nat.blt r k && ltL k (es.map (·.2))
  | .loop _ _ _ _ _ _ _ => false
  | .none | .mark | .itr _ | .esl => true
  | .rowo _ xs => ltL k xs
end
structure Chp (A : Type) where
  c0 : Nat
  pre : List (Nat × Pl A)
  post : List (Pl A)
  news : List (Pl A)
  sg : List Nat
  val : V
def incB (c : Nat) : List Nat → Bool
  | [] => true
  | n :: l => Nat.ble c n && incB (Nat.succ n) l
section
variable {A : Type}
def Chp.out (c : Chp A) : List Nat := c.pre.map (·.1) ++ c.sg
def Chp.aft (c : Chp A) : List (Pl A) := c.post ++ c.news
def Chp.okB (c : Chp A) (args : List V) : Bool := Nat.ble c.c0 32768 && (incB 0 (c.pre.map (·.1)) && (c.pre.all (fun e => Nat.blt e.1 c.c0 && e.2.ltB c.c0) && (incB c.c0 c.sg && (Nat.beq c.sg.length c.news.length && (Nat.beq c.post.length c.pre.length &&
  (c.aft.all (fun p => p.ltB (c.c0 + c.news.length)) && (c.val.ltB (c.c0 + c.news.length) && ltL c.c0 args)))))))
end
end Go.Proofs.YthdnonoheochhaaGreatDoor
namespace Go.Proofs.YthdnonoheochhaaGreatDoor
open Go.RowKit
set_option linter.unusedVariables false
section
variable {A : Type} {ar : A → List Value → Value → Res} {P : Program} {kof : TypeId → Option (Nat × Bool)} {tbl : FuncId → Option (List V → T A)}
theorem need_run {c : Bool} {k : T A} {ch : List Bool} {M : List (Pl A)} {obs : Obs} {lg : Lg} {r M' ch' obs' lg'} (h : (T.need c k).run ch M obs lg = .ok r M' ch' obs' lg') (ho : okObs obs') : c = true ∧ k.run ch M ((c, true) :: obs) lg = .ok r M' ch' obs' lg' := ⟨run_obs k h ho (c, true) List.mem_cons_self, h⟩
end
end Go.Proofs.YthdnonoheochhaaGreatDoor
