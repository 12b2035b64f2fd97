/- MachineDeep: rounds of the loop, how = 0, from the 128-th to the 253-th: seen by the kernel. -/
import Derived.Test.YtapognhadfncmaaGreatDoorDeepU
import Derived.KernelRfl
namespace Go.Proofs.YtapognhadfncmaaGreatDoor
open Go Go.Ev
set_option maxRecDepth 1000000
set_option maxHeartbeats 40000000
theorem up0_128 : okA up0 128 16 = okT 16 := by kernel_rfl
theorem up0_144 : okA up0 144 16 = okT 16 := by kernel_rfl
theorem up0_160 : okA up0 160 16 = okT 16 := by kernel_rfl
theorem up0_176 : okA up0 176 16 = okT 16 := by kernel_rfl
theorem up0_192 : okA up0 192 16 = okT 16 := by kernel_rfl
theorem up0_208 : okA up0 208 16 = okT 16 := by kernel_rfl
theorem up0_224 : okA up0 224 16 = okT 16 := by kernel_rfl
theorem up0_240 : okA up0 240 14 = okT 14 := by kernel_rfl
end Go.Proofs.YtapognhadfncmaaGreatDoor
