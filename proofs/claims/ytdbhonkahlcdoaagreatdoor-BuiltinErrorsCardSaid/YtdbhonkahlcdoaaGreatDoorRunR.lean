/- A law's run: the evaluator with builtin.Name, value.Number and the awake by contract. -/
import Derived.Test.YtdbhonkahlcdoaaGreatDoorRunK
import Derived.Test.YtdbhonkahlcdoaaGreatDoorAnsP
namespace Go.Proofs.YtdbhonkahlcdoaaGreatDoor
open Go Go.Ev
set_option maxRecDepth 1000000
def ansT (args : List CV) : Option CV := match args with
  | [] => some (.bool true)
  | _ => none
/-- the contracts, with the closed call that the laws begin with -/
def A1 : AnsT := fun g => match Nat.beq g 6 with
  | true => some ansT
  | false => A0 g
noncomputable def runAw : Res := callAS Tryz.prog tyI fnF glo0 drawn dirT A0 1000000 140 (.func 6) (encVs []) ⟨[], []⟩ (encH DD heap0) 11 (isVS DD (.bool true))
noncomputable def runs (A : AnsT) (f : FuncId) (args : List CV) (tab : Tab) : Res := stepD Tryz.prog tyI fnF glo0 drawn 1000000 dirT (callAS Tryz.prog tyI fnF glo0 drawn dirT A 1000000 140) (.func f) (encVs args) tab (encH DD heap0) 11 (isTS DD)
end Go.Proofs.YtdbhonkahlcdoaaGreatDoor
