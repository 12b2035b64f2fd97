/- MachineDeep: rounds of the loop, how = 1, from the 0-th to the 127-th: seen by the kernel. -/
import Derived.Test.YtapognhadfncmaaGreatDoorDeepU
import Derived.KernelRfl
namespace Go.Proofs.YtapognhadfncmaaGreatDoor
open Go Go.Ev
set_option maxRecDepth 1000000
set_option maxHeartbeats 40000000
theorem dn1_0 : okA dn1 0 16 = okT 16 := by kernel_rfl
theorem dn1_16 : okA dn1 16 16 = okT 16 := by kernel_rfl
theorem dn1_32 : okA dn1 32 16 = okT 16 := by kernel_rfl
theorem dn1_48 : okA dn1 48 16 = okT 16 := by kernel_rfl
theorem dn1_64 : okA dn1 64 16 = okT 16 := by kernel_rfl
theorem dn1_80 : okA dn1 80 16 = okT 16 := by kernel_rfl
theorem dn1_96 : okA dn1 96 16 = okT 16 := by kernel_rfl
theorem dn1_112 : okA dn1 112 16 = okT 16 := by kernel_rfl
end Go.Proofs.YtapognhadfncmaaGreatDoor
