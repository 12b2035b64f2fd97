/- MachineDeep: the way to the first point and from the last one: seen by the kernel. -/
import Derived.Test.YtapognhadfncmaaGreatDoorDeepU
import Derived.KernelRfl
namespace Go.Proofs.YtapognhadfncmaaGreatDoor
open Go Go.Ev
set_option maxRecDepth 1000000
set_option maxHeartbeats 40000000
theorem pa0 : sg cK r0 1 7 [(0, 399)] st0 (ids 10) st0b = .ok := by kernel_rfl
theorem pb0 : sg cK r1 1 7 [(0, 399)] st0b (ids 10) st0a = .ok := by kernel_rfl
theorem hd0 : sg cK lb9 8 7 [(0, 399)] st0a rs0 (D0 0) = .ok := by kernel_rfl
theorem en0 : sgR cK lb9 4 7 [(0, 254)] Az0 re0 E0 = .ok := by kernel_rfl
theorem pa1 : sg cK r0 1 8 [(0, 399)] st1 (ids 11) st1b = .ok := by kernel_rfl
theorem pb1 : sg cK r1 1 8 [(0, 399)] st1b (ids 11) st1a = .ok := by kernel_rfl
theorem hd1 : sg cK lb9 10 8 [(0, 399)] st1a rs1 (D1 0) = .ok := by kernel_rfl
theorem en1 : sgR cK lb9 11 8 [(0, 254)] Az1 re1 E1 = .ok := by kernel_rfl
end Go.Proofs.YtapognhadfncmaaGreatDoor
