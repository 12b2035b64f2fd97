/- A law's run over the table of the lifted forms. -/
import Derived.Test.YtbckjaoljeimgaaGreatDoorRunK
namespace Go.Proofs.YtbckjaoljeimgaaGreatDoor
open Go Go.Ev
set_option maxRecDepth 1000000
noncomputable def K0 : FuncId → Option KRows := fun _ => none
/-- the closed call that the law begins with -/
noncomputable def K1 : FuncId → Option KRows := fun f => match Nat.beq f 13 with | true => some [([], .bool true)] | false => none
noncomputable def runA : Res := callDK Tryz.prog tyI fnF glo0 drawn dirT K0 1000000 140 (.func 13) (encVs []) ⟨[], []⟩ (encH DD heap0) 8 (isVS DD (.bool true))
end Go.Proofs.YtbckjaoljeimgaaGreatDoor
