/- MachineDeep: rounds of the loop, how = 0, from the 128-th to the 253-th: seen by the kernel. -/
import Derived.Test.YtapognhadfncmaaGreatDoorDeepU
import Derived.KernelRfl
namespace Go.Proofs.YtapognhadfncmaaGreatDoor
open Go Go.Ev
set_option maxRecDepth 1000000
set_option maxHeartbeats 40000000
theorem dn0_128 : okA dn0 128 16 = okT 16 := by kernel_rfl
theorem dn0_144 : okA dn0 144 16 = okT 16 := by kernel_rfl
theorem dn0_160 : okA dn0 160 16 = okT 16 := by kernel_rfl
theorem dn0_176 : okA dn0 176 16 = okT 16 := by kernel_rfl
theorem dn0_192 : okA dn0 192 16 = okT 16 := by kernel_rfl
theorem dn0_208 : okA dn0 208 16 = okT 16 := by kernel_rfl
theorem dn0_224 : okA dn0 224 16 = okT 16 := by kernel_rfl
theorem dn0_240 : okA dn0 240 14 = okT 14 := by kernel_rfl
end Go.Proofs.YtapognhadfncmaaGreatDoor
