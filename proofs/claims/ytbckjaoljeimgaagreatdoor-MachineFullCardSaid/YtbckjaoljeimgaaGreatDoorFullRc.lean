/- MachineFull: its runs, seen by the kernel: the heap is not filled. -/
import Derived.Test.YtbckjaoljeimgaaGreatDoorFullY
import Derived.KernelRfl
namespace Go.Proofs.YtbckjaoljeimgaaGreatDoor
open Go Go.Ev
set_option maxRecDepth 1000000
set_option maxHeartbeats 40000000
theorem fullr0 : runY cP 0 100000 (.lin .u8 0 [(32, 0)]) ⟨[(1, 7)], []⟩ = .ok := by kernel_rfl
theorem fullr1 : runY cP 0 100000 (.lin .u8 1 [(32, 0)]) ⟨[(0, 7)], []⟩ = .ok := by kernel_rfl
theorem fullr2 : runY cP 0 100000 (.lin .u8 2 [(32, 0)]) ⟨[(0, 7)], []⟩ = .ok := by kernel_rfl
theorem fullr3 : runY cP 0 100000 (.lin .u8 3 [(32, 0)]) ⟨[(0, 7)], []⟩ = .ok := by kernel_rfl
theorem fullr4 : runY cP 0 100000 (.lin .u8 4 [(32, 0)]) ⟨[(0, 7)], []⟩ = .ok := by kernel_rfl
theorem fullr5 : runY cP 0 100000 (.lin .u8 5 [(32, 0)]) ⟨[(0, 7)], []⟩ = .ok := by kernel_rfl
theorem fullr6 : runY cP 0 100000 (.lin .u8 6 [(32, 0)]) ⟨[(0, 7)], []⟩ = .ok := by kernel_rfl
theorem fullr7 : runY cP 0 100000 (.lin .u8 7 [(32, 0)]) ⟨[(0, 7)], []⟩ = .ok := by kernel_rfl
theorem fullr8 : runY cP 0 100000 (.lin .u8 8 [(32, 0)]) ⟨[(0, 7)], []⟩ = .ok := by kernel_rfl
theorem fullr10 : runY cP 0 100000 (.lin .u8 10 [(32, 0)]) ⟨[(0, 7)], []⟩ = .ok := by kernel_rfl
theorem fullr11 : runY cP 0 100000 (.lin .u8 11 [(32, 0)]) ⟨[(0, 7)], []⟩ = .ok := by kernel_rfl
theorem fullr12 : runY cP 0 100000 (.lin .u8 12 [(32, 0)]) ⟨[(0, 7)], []⟩ = .ok := by kernel_rfl
theorem fullr13 : runY cP 0 100000 (.lin .u8 13 [(32, 0)]) ⟨[(0, 7)], []⟩ = .ok := by kernel_rfl
theorem fullr14 : runY cP 0 100000 (.lin .u8 14 [(32, 0)]) ⟨[(0, 7)], []⟩ = .ok := by kernel_rfl
theorem fullr15 : runY cP 0 100000 (.lin .u8 15 [(32, 0)]) ⟨[(0, 7)], []⟩ = .ok := by kernel_rfl
theorem fullr16 : runY cP 0 100000 (.lin .u8 16 [(32, 0)]) ⟨[(0, 7)], []⟩ = .ok := by kernel_rfl
theorem fullr18 : runY cP 0 100000 (.lin .u8 18 [(32, 0)]) ⟨[(0, 7)], []⟩ = .ok := by kernel_rfl
theorem fullr19 : runY cP 0 100000 (.lin .u8 19 [(32, 0)]) ⟨[(0, 7)], []⟩ = .ok := by kernel_rfl
theorem fullr20 : runY cP 0 100000 (.lin .u8 20 [(32, 0)]) ⟨[(0, 7)], []⟩ = .ok := by kernel_rfl
theorem fullr21 : runY cP 0 100000 (.lin .u8 21 [(32, 0)]) ⟨[(0, 7)], []⟩ = .ok := by kernel_rfl
theorem fullr22 : runY cP 0 100000 (.lin .u8 22 [(32, 0)]) ⟨[(0, 7)], []⟩ = .ok := by kernel_rfl
theorem fullr23 : runY cP 0 100000 (.lin .u8 23 [(32, 0)]) ⟨[(0, 7)], []⟩ = .ok := by kernel_rfl
theorem fullr24 : runY cP 0 100000 (.lin .u8 24 [(32, 0)]) ⟨[(0, 7)], []⟩ = .ok := by kernel_rfl
theorem fullr26 : runY cP 0 100000 (.lin .u8 26 [(32, 0)]) ⟨[(0, 7)], []⟩ = .ok := by kernel_rfl
theorem fullr27 : runY cP 0 100000 (.lin .u8 27 [(32, 0)]) ⟨[(0, 7)], []⟩ = .ok := by kernel_rfl
theorem fullr28 : runY cP 0 100000 (.lin .u8 28 [(32, 0)]) ⟨[(0, 7)], []⟩ = .ok := by kernel_rfl
theorem fullr29 : runY cP 0 100000 (.lin .u8 29 [(32, 0)]) ⟨[(0, 7)], []⟩ = .ok := by kernel_rfl
theorem fullr30 : runY cP 0 100000 (.lin .u8 30 [(32, 0)]) ⟨[(0, 7)], []⟩ = .ok := by kernel_rfl
theorem fullr31 : runY cP 0 100000 (.lin .u8 31 [(32, 0)]) ⟨[(0, 7)], []⟩ = .ok := by kernel_rfl
end Go.Proofs.YtbckjaoljeimgaaGreatDoor
