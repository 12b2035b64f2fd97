/- MachineDeep: rounds of the loop, how = 1, from the 128-th to the 253-th: seen by the kernel. -/
import Derived.Test.YtapognhadfncmaaGreatDoorDeepU
import Derived.KernelRfl
namespace Go.Proofs.YtapognhadfncmaaGreatDoor
open Go Go.Ev
set_option maxRecDepth 1000000
set_option maxHeartbeats 40000000
theorem dn1_128 : okA dn1 128 16 = okT 16 := by kernel_rfl
theorem dn1_144 : okA dn1 144 16 = okT 16 := by kernel_rfl
theorem dn1_160 : okA dn1 160 16 = okT 16 := by kernel_rfl
theorem dn1_176 : okA dn1 176 16 = okT 16 := by kernel_rfl
theorem dn1_192 : okA dn1 192 16 = okT 16 := by kernel_rfl
theorem dn1_208 : okA dn1 208 16 = okT 16 := by kernel_rfl
theorem dn1_224 : okA dn1 224 16 = okT 16 := by kernel_rfl
theorem dn1_240 : okA dn1 240 14 = okT 14 := by kernel_rfl
end Go.Proofs.YtapognhadfncmaaGreatDoor
