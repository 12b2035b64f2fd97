/- MachineDeep: rounds of the loop, how = 0, from the 0-th to the 127-th: seen by the kernel. -/
import Derived.Test.YtapognhadfncmaaGreatDoorDeepU
import Derived.KernelRfl
namespace Go.Proofs.YtapognhadfncmaaGreatDoor
open Go Go.Ev
set_option maxRecDepth 1000000
set_option maxHeartbeats 40000000
theorem dn0_0 : okA dn0 0 16 = okT 16 := by kernel_rfl
theorem dn0_16 : okA dn0 16 16 = okT 16 := by kernel_rfl
theorem dn0_32 : okA dn0 32 16 = okT 16 := by kernel_rfl
theorem dn0_48 : okA dn0 48 16 = okT 16 := by kernel_rfl
theorem dn0_64 : okA dn0 64 16 = okT 16 := by kernel_rfl
theorem dn0_80 : okA dn0 80 16 = okT 16 := by kernel_rfl
theorem dn0_96 : okA dn0 96 16 = okT 16 := by kernel_rfl
theorem dn0_112 : okA dn0 112 16 = okT 16 := by kernel_rfl
end Go.Proofs.YtapognhadfncmaaGreatDoor
