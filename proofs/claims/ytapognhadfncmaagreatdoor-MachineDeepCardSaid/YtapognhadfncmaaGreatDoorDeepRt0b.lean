/- MachineDeep: rounds of the loop, how = 0, from the 128-th to the 254-th: seen by the kernel. -/
import Derived.Test.YtapognhadfncmaaGreatDoorDeepU
import Derived.KernelRfl
namespace Go.Proofs.YtapognhadfncmaaGreatDoor
open Go Go.Ev
set_option maxRecDepth 1000000
set_option maxHeartbeats 40000000
theorem tn0_128 : okA tn0 128 16 = okT 16 := by kernel_rfl
theorem tn0_144 : okA tn0 144 16 = okT 16 := by kernel_rfl
theorem tn0_160 : okA tn0 160 16 = okT 16 := by kernel_rfl
theorem tn0_176 : okA tn0 176 16 = okT 16 := by kernel_rfl
theorem tn0_192 : okA tn0 192 16 = okT 16 := by kernel_rfl
theorem tn0_208 : okA tn0 208 16 = okT 16 := by kernel_rfl
theorem tn0_224 : okA tn0 224 16 = okT 16 := by kernel_rfl
theorem tn0_240 : okA tn0 240 15 = okT 15 := by kernel_rfl
end Go.Proofs.YtapognhadfncmaaGreatDoor
