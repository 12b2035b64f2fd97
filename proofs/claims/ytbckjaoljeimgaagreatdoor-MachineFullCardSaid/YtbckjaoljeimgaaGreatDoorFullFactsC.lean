/- Closed facts of the card of MachineFull, one theorem each. -/
import Derived.Test.YtbckjaoljeimgaaGreatDoorRows
import Derived.ProofKit
import Derived.OpenShut
import Derived.SevenTiedAt
namespace Go.Proofs.YtbckjaoljeimgaaGreatDoor.machineFull
set_option maxRecDepth 100000
theorem c1 : Rows.machineFullRow.wfByText (OpenSpec.ofChange Rows.machineFullSpec) = true := by kernel_rfl
theorem c2 : Tryz.prog.mainIs = some (true, "5be27dadfe86adbadf9519445363520cc479fddbc4d89ae026e2c639f6aeb857".toList) := by kernel_rfl
theorem c3 : true = Tryz.prog.looks [] := by kernel_rfl
end Go.Proofs.YtbckjaoljeimgaaGreatDoor.machineFull
