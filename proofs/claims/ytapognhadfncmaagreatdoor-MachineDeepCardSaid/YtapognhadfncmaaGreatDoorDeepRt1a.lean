/- MachineDeep: rounds of the loop, how = 1, from the 0-th to the 127-th: seen by the kernel. -/
import Derived.Test.YtapognhadfncmaaGreatDoorDeepU
import Derived.KernelRfl
namespace Go.Proofs.YtapognhadfncmaaGreatDoor
open Go Go.Ev
set_option maxRecDepth 1000000
set_option maxHeartbeats 40000000
theorem tn1_0 : okA tn1 0 16 = okT 16 := by kernel_rfl
theorem tn1_16 : okA tn1 16 16 = okT 16 := by kernel_rfl
theorem tn1_32 : okA tn1 32 16 = okT 16 := by kernel_rfl
theorem tn1_48 : okA tn1 48 16 = okT 16 := by kernel_rfl
theorem tn1_64 : okA tn1 64 16 = okT 16 := by kernel_rfl
theorem tn1_80 : okA tn1 80 16 = okT 16 := by kernel_rfl
theorem tn1_96 : okA tn1 96 16 = okT 16 := by kernel_rfl
theorem tn1_112 : okA tn1 112 16 = okT 16 := by kernel_rfl
end Go.Proofs.YtapognhadfncmaaGreatDoor
