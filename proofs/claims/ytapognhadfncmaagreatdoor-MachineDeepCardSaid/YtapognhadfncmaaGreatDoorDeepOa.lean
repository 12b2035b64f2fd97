/- MachineDeep: beyond the limit: seen by the kernel. -/
import Derived.Test.YtapognhadfncmaaGreatDoorDeepV
import Derived.KernelRfl
namespace Go.Proofs.YtapognhadfncmaaGreatDoor
open Go Go.Ev
set_option maxRecDepth 1000000
set_option maxHeartbeats 40000000
theorem o0a : ro1d 0 250 5 9 = .ok := by kernel_rfl
theorem o1a : ro1d 1 250 5 9 = .ok := by kernel_rfl
end Go.Proofs.YtapognhadfncmaaGreatDoor
