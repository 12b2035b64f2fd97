/- No function is printed: each runs staged. -/
import Derived.Test.YtdbhonkahlcdoaaGreatDoorRunD
namespace Go.Proofs.YtdbhonkahlcdoaaGreatDoor
open Go Go.Ev
noncomputable def dirT : FuncId → Option (FnF DD) := fun _ => none
theorem dirT_ok : DirOk Tryz.prog tyI fnF glo0 drawn 1000000 dirT := fun _ _ h => by cases h
end Go.Proofs.YtdbhonkahlcdoaaGreatDoor
