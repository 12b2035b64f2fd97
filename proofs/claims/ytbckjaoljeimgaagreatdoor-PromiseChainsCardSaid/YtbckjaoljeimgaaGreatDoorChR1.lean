/- PromiseChains: runs, seen by the kernel (Finish: from job to job, part 1). -/
import Derived.Test.YtbckjaoljeimgaaGreatDoorChU
import Derived.KernelRfl
namespace Go.Proofs.YtbckjaoljeimgaaGreatDoor
open Go Go.Ev
set_option maxRecDepth 1000000
set_option maxHeartbeats 400000000
theorem sg_2_0 : okA (sgX 2 0) 0 20 = okT 20 := by kernel_rfl
theorem sg_7_4 : okA (sgX 7 4) 0 20 = okT 20 := by kernel_rfl
theorem sg_9_0 : okA (sgX 9 0) 0 20 = okT 20 := by kernel_rfl
theorem sg_9_2 : okA (sgX 9 2) 0 20 = okT 20 := by kernel_rfl
theorem sg_12_1 : okA (sgX 12 1) 0 20 = okT 20 := by kernel_rfl
theorem sg_12_9 : okA (sgX 12 9) 0 20 = okT 20 := by kernel_rfl
theorem sg_13_5 : okA (sgX 13 5) 0 20 = okT 20 := by kernel_rfl
theorem sg_15_0 : okA (sgX 15 0) 0 20 = okT 20 := by kernel_rfl
theorem sg_15_11 : okA (sgX 15 11) 0 20 = okT 20 := by kernel_rfl
theorem sg_16_1 : okA (sgX 16 1) 0 20 = okT 20 := by kernel_rfl
theorem sg_16_3 : okA (sgX 16 3) 0 20 = okT 20 := by kernel_rfl
theorem sg_18_5 : okA (sgX 18 5) 0 20 = okT 20 := by kernel_rfl
theorem sg_18_16 : okA (sgX 18 16) 0 20 = okT 20 := by kernel_rfl
theorem sg_19_11 : okA (sgX 19 11) 0 20 = okT 20 := by kernel_rfl
theorem sg_20_1 : okA (sgX 20 1) 0 20 = okT 20 := by kernel_rfl
theorem sg_20_13 : okA (sgX 20 13) 0 20 = okT 20 := by kernel_rfl
end Go.Proofs.YtbckjaoljeimgaaGreatDoor
