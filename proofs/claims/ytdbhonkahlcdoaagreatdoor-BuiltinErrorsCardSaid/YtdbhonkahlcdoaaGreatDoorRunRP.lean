/- A law's run with panics that are recovered. -/
import Derived.Test.YtdbhonkahlcdoaaGreatDoorRunR
namespace Go.Proofs.YtdbhonkahlcdoaaGreatDoor
open Go Go.Ev
set_option maxRecDepth 1000000
noncomputable def runsP (A : AnsT) (PS : FuncId → Bool) (f : FuncId) (args : List CV) (tab : Tab) : Res := stepD Tryz.prog tyI fnF glo0 drawn 1000000 dirT (callPS Tryz.prog tyI fnF glo0 drawn dirT A PS 10 70 1000000 140) (.func f) (encVs args) tab (encH DD heap0) 11 (isTS DD)
end Go.Proofs.YtdbhonkahlcdoaaGreatDoor
