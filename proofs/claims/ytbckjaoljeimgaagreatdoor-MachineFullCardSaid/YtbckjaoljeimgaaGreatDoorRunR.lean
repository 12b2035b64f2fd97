/- A law's run over the table of the lifted forms, where one function recovers from a panic. -/
import Derived.Test.YtbckjaoljeimgaaGreatDoorRunK
import Derived.Test.YtbckjaoljeimgaaGreatDoorEvO
namespace Go.Proofs.YtbckjaoljeimgaaGreatDoor
open Go Go.Ev
set_option maxRecDepth 1000000
noncomputable def K0 : FuncId → Option KRows := fun _ => none
/-- the closed call that the law begins with -/
noncomputable def K1 : FuncId → Option KRows := fun f => match Nat.beq f 5 with | true => some [([], .bool true)] | false => none
/-- the functions through which a panic goes -/
noncomputable def PSf (f : FuncId) : Bool := ([29,30,51,53,67,95,96,105]).any fun g => Nat.beq f g
noncomputable def runA : Res := callDK Tryz.prog tyI fnF glo0 drawn dirT K0 1000000 140 (.func 5) (encVs []) ⟨[], []⟩ (encH DD heap0) 8 (isVS DD (.bool true))
/-- calls, where one function recovers from a panic -/
noncomputable def cQ : CallS DD := callDKQ Tryz.prog tyI fnF glo0 drawn dirT K1 PSf 10 9 0 0 1000000 140
noncomputable def cP : CallS DD := callDK Tryz.prog tyI fnF glo0 drawn dirT K1 1000000 140
end Go.Proofs.YtbckjaoljeimgaaGreatDoor
