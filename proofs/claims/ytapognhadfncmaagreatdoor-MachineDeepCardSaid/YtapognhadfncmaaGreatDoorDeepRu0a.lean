/- MachineDeep: rounds of the loop, how = 0, from the 0-th to the 127-th: seen by the kernel. -/
import Derived.Test.YtapognhadfncmaaGreatDoorDeepU
import Derived.KernelRfl
namespace Go.Proofs.YtapognhadfncmaaGreatDoor
open Go Go.Ev
set_option maxRecDepth 1000000
set_option maxHeartbeats 40000000
theorem up0_0 : okA up0 0 16 = okT 16 := by kernel_rfl
theorem up0_16 : okA up0 16 16 = okT 16 := by kernel_rfl
theorem up0_32 : okA up0 32 16 = okT 16 := by kernel_rfl
theorem up0_48 : okA up0 48 16 = okT 16 := by kernel_rfl
theorem up0_64 : okA up0 64 16 = okT 16 := by kernel_rfl
theorem up0_80 : okA up0 80 16 = okT 16 := by kernel_rfl
theorem up0_96 : okA up0 96 16 = okT 16 := by kernel_rfl
theorem up0_112 : okA up0 112 16 = okT 16 := by kernel_rfl
end Go.Proofs.YtapognhadfncmaaGreatDoor
