/- Its rows lie as they are to. -/
import Derived.Test.YtdbhonkahlcdoaaGreatDoorRows
import Derived.LaidByTextLater
import Derived.SevenTiedAt
import Derived.ProofKit
import Derived.OpenShut
import Derived.Test.YtdbhonkahlcdoaaGreatDoorTieA
namespace Go.Proofs.YtdbhonkahlcdoaaGreatDoor
open Go
set_option maxRecDepth 100000
theorem t9b (os : Os) (tape : Tape) : (DataW.laidRun Tryz.prog (varsWorld Tryz.prog 400 (varsId Tryz.prog) os tape).memory 8 (tieL.map (·.1))).map (fun x => laidRowsB Tryz.prog (varsWorld Tryz.prog 400 (varsId Tryz.prog) os tape).memory x.2) = some true := by kernel_rfl
end Go.Proofs.YtdbhonkahlcdoaaGreatDoor
