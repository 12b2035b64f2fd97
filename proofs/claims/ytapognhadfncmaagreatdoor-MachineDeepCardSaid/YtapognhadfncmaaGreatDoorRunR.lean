/- A law's run over the table of the lifted forms, where one function recovers from a panic. -/
import Derived.Test.YtapognhadfncmaaGreatDoorRunK
namespace Go.Proofs.YtapognhadfncmaaGreatDoor
open Go Go.Ev
set_option maxRecDepth 1000000
noncomputable def K0 : FuncId → Option KRows := fun _ => none
/-- the closed call that every law begins with -/
noncomputable def K1 : FuncId → Option KRows := fun f => match Nat.beq f 6 with | true => some [([], .bool true)] | false => none
/-- the functions through which a panic goes -/
noncomputable def PSd (f : FuncId) : Bool := match Nat.beq f 35 || (Nat.beq f 58 || Nat.beq f 56) with | true => true | false => false
noncomputable def runA : Res := callDK Tryz.prog tyI fnF glo0 drawn dirT K0 1000000 140 (.func 6) (encVs []) ⟨[], []⟩ (encH DD heap0) 8 (isVS DD (.bool true))
noncomputable def runQ (f : FuncId) (args : List CV) (tab : Tab) : Res := stepD Tryz.prog tyI fnF glo0 drawn 1000000 dirT (callDKQ Tryz.prog tyI fnF glo0 drawn dirT K1 PSd 10 15 0 256 1000000 140) (.func f) (encVs args) tab (encH DD heap0) 8 (isTS DD)
end Go.Proofs.YtapognhadfncmaaGreatDoor
