/- MachineDeep: within the limit, the law's runs over each shape of its number: seen by the kernel. -/
import Derived.Test.YtapognhadfncmaaGreatDoorDeepV
import Derived.KernelRfl
namespace Go.Proofs.YtapognhadfncmaaGreatDoor
open Go Go.Ev
set_option maxRecDepth 1000000
set_option maxHeartbeats 40000000
theorem nok0 : kn0.ok ro0 = true := by kernel_rfl
theorem nok1 : kn1.ok ro1 = true := by kernel_rfl
theorem lx1 : rf1 kn0 ro0 0 0 0 9 = .both .ok .ok := by kernel_rfl
theorem lx2 : rf2 kn0 ro0 0 0 1 9 = .ok := by kernel_rfl
theorem lx3 : rf2 kn0 ro0 0 100 0 9 = .ok := by kernel_rfl
theorem lx4 : rf2 kn0 ro0 0 200 0 4 = .ok := by kernel_rfl
theorem lx5 : rf1 kn0 ro0 0 250 0 4 = .ok := by kernel_rfl
theorem ly1 : rf1 kn1 ro1 1 0 0 9 = .both .ok .ok := by kernel_rfl
theorem ly2 : rf2 kn1 ro1 1 0 1 9 = .ok := by kernel_rfl
theorem ly3 : rf2 kn1 ro1 1 100 0 9 = .ok := by kernel_rfl
theorem ly4 : rf2 kn1 ro1 1 200 0 4 = .ok := by kernel_rfl
theorem ly5 : rf1 kn1 ro1 1 250 0 4 = .ok := by kernel_rfl
end Go.Proofs.YtapognhadfncmaaGreatDoor
