/- MachineDeep: beyond the limit: seen by the kernel. -/
import Derived.Test.YtapognhadfncmaaGreatDoorDeepV
import Derived.KernelRfl
namespace Go.Proofs.YtapognhadfncmaaGreatDoor
open Go Go.Ev
set_option maxRecDepth 1000000
set_option maxHeartbeats 40000000
theorem o0b : ro2d 0 200 6 9 = .ok := by kernel_rfl
theorem o1b : ro2d 1 200 6 9 = .ok := by kernel_rfl
end Go.Proofs.YtapognhadfncmaaGreatDoor
