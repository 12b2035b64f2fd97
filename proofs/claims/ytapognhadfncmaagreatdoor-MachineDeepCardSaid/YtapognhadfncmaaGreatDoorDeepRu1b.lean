/- MachineDeep: rounds of the loop, how = 1, from the 128-th to the 253-th: seen by the kernel. -/
import Derived.Test.YtapognhadfncmaaGreatDoorDeepU
import Derived.KernelRfl
namespace Go.Proofs.YtapognhadfncmaaGreatDoor
open Go Go.Ev
set_option maxRecDepth 1000000
set_option maxHeartbeats 40000000
theorem up1_128 : okA up1 128 16 = okT 16 := by kernel_rfl
theorem up1_144 : okA up1 144 16 = okT 16 := by kernel_rfl
theorem up1_160 : okA up1 160 16 = okT 16 := by kernel_rfl
theorem up1_176 : okA up1 176 16 = okT 16 := by kernel_rfl
theorem up1_192 : okA up1 192 16 = okT 16 := by kernel_rfl
theorem up1_208 : okA up1 208 16 = okT 16 := by kernel_rfl
theorem up1_224 : okA up1 224 16 = okT 16 := by kernel_rfl
theorem up1_240 : okA up1 240 14 = okT 14 := by kernel_rfl
end Go.Proofs.YtapognhadfncmaaGreatDoor
