/- MachineFull: its runs, seen by the kernel: the heap is filled up to some objects below its limit. -/
import Derived.Test.YtbckjaoljeimgaaGreatDoorFullY
import Derived.KernelRfl
namespace Go.Proofs.YtbckjaoljeimgaaGreatDoor
open Go Go.Ev
set_option maxRecDepth 1000000
set_option maxHeartbeats 40000000
theorem fullr9 : runY cP 9 99991 (.lin .u8 9 [(32, 0)]) ⟨[(0, 7)], []⟩ = .ok := by kernel_rfl
theorem fullr17 : runY cP 17 99983 (.lin .u8 17 [(32, 0)]) ⟨[(0, 7)], []⟩ = .ok := by kernel_rfl
theorem fullr25 : runY cP 25 99975 (.lin .u8 25 [(32, 0)]) ⟨[(0, 7)], []⟩ = .ok := by kernel_rfl
end Go.Proofs.YtbckjaoljeimgaaGreatDoor
