/- MachineDeep: rounds of the loop, how = 1, from the 0-th to the 127-th: seen by the kernel. -/
import Derived.Test.YtapognhadfncmaaGreatDoorDeepU
import Derived.KernelRfl
namespace Go.Proofs.YtapognhadfncmaaGreatDoor
open Go Go.Ev
set_option maxRecDepth 1000000
set_option maxHeartbeats 40000000
theorem up1_0 : okA up1 0 16 = okT 16 := by kernel_rfl
theorem up1_16 : okA up1 16 16 = okT 16 := by kernel_rfl
theorem up1_32 : okA up1 32 16 = okT 16 := by kernel_rfl
theorem up1_48 : okA up1 48 16 = okT 16 := by kernel_rfl
theorem up1_64 : okA up1 64 16 = okT 16 := by kernel_rfl
theorem up1_80 : okA up1 80 16 = okT 16 := by kernel_rfl
theorem up1_96 : okA up1 96 16 = okT 16 := by kernel_rfl
theorem up1_112 : okA up1 112 16 = okT 16 := by kernel_rfl
end Go.Proofs.YtapognhadfncmaaGreatDoor
