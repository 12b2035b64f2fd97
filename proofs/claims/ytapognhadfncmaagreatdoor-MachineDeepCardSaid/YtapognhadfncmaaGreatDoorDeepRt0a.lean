/- MachineDeep: rounds of the loop, how = 0, from the 0-th to the 127-th: seen by the kernel. -/
import Derived.Test.YtapognhadfncmaaGreatDoorDeepU
import Derived.KernelRfl
namespace Go.Proofs.YtapognhadfncmaaGreatDoor
open Go Go.Ev
set_option maxRecDepth 1000000
set_option maxHeartbeats 40000000
theorem tn0_0 : okA tn0 0 16 = okT 16 := by kernel_rfl
theorem tn0_16 : okA tn0 16 16 = okT 16 := by kernel_rfl
theorem tn0_32 : okA tn0 32 16 = okT 16 := by kernel_rfl
theorem tn0_48 : okA tn0 48 16 = okT 16 := by kernel_rfl
theorem tn0_64 : okA tn0 64 16 = okT 16 := by kernel_rfl
theorem tn0_80 : okA tn0 80 16 = okT 16 := by kernel_rfl
theorem tn0_96 : okA tn0 96 16 = okT 16 := by kernel_rfl
theorem tn0_112 : okA tn0 112 16 = okT 16 := by kernel_rfl
end Go.Proofs.YtapognhadfncmaaGreatDoor
