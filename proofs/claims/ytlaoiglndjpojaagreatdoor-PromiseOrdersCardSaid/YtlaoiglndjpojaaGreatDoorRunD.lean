/- The evaluator, set upon this program: its tables, and a law's run. -/
import Derived.Test.YtlaoiglndjpojaaGreatDoorEvH
import Derived.Test.YtlaoiglndjpojaaGreatDoorProg
import Derived.KernelRfl
namespace Go.Proofs.YtlaoiglndjpojaaGreatDoor
open Go Go.Ev
set_option maxRecDepth 1000000
/-- the functions whose drawn regions are looked at beforehand -/
def drawn (f : FuncId) : Bool := match Nat.beq f 121 || Nat.beq f 289 with | true => false | false => true
noncomputable def heap0 : Hp := ofList (List.replicate 8 CB.none)
noncomputable def tyT : Tr TypeInfo := ofList Tryz.prog.types.toList
noncomputable def fnT : Tr Func := ofList Tryz.prog.funcs.toList
noncomputable def tyI (t : TypeId) : Option TypeInfo := infoT Tryz.prog tyT t
noncomputable def fnF (f : FuncId) : Option Func := fnT.get? f
noncomputable def glo0 : Nat → Bool := fun _ => false
/-- a law's run, where one closed call is passed over -/
noncomputable def runs (aw f : FuncId) (args : List CV) (tab : Tab) : Bool := stepS (D := 10) Tryz.prog tyI fnF glo0 drawn 100000 (ovrS aw (callS (D := 10) Tryz.prog tyI fnF glo0 drawn 100000 60)) (.func f) (encVs args) tab (encH 10 heap0) 8 (isTS 10)
end Go.Proofs.YtlaoiglndjpojaaGreatDoor
