/- MachineDeep: rounds of the loop, how = 1, from the 128-th to the 254-th: seen by the kernel. -/
import Derived.Test.YtapognhadfncmaaGreatDoorDeepU
import Derived.KernelRfl
namespace Go.Proofs.YtapognhadfncmaaGreatDoor
open Go Go.Ev
set_option maxRecDepth 1000000
set_option maxHeartbeats 40000000
theorem tn1_128 : okA tn1 128 16 = okT 16 := by kernel_rfl
theorem tn1_144 : okA tn1 144 16 = okT 16 := by kernel_rfl
theorem tn1_160 : okA tn1 160 16 = okT 16 := by kernel_rfl
theorem tn1_176 : okA tn1 176 16 = okT 16 := by kernel_rfl
theorem tn1_192 : okA tn1 192 16 = okT 16 := by kernel_rfl
theorem tn1_208 : okA tn1 208 16 = okT 16 := by kernel_rfl
theorem tn1_224 : okA tn1 224 16 = okT 16 := by kernel_rfl
theorem tn1_240 : okA tn1 240 15 = okT 15 := by kernel_rfl
end Go.Proofs.YtapognhadfncmaaGreatDoor
