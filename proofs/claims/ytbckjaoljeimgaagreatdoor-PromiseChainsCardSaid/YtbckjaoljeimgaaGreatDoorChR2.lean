/- PromiseChains: runs, seen by the kernel (Finish: from job to job, part 2). -/
import Derived.Test.YtbckjaoljeimgaaGreatDoorChU
import Derived.KernelRfl
namespace Go.Proofs.YtbckjaoljeimgaaGreatDoor
open Go Go.Ev
set_option maxRecDepth 1000000
set_option maxHeartbeats 400000000
theorem sg_7_5 : okA (sgX 7 5) 0 20 = okT 20 := by kernel_rfl
theorem sg_9_1 : okA (sgX 9 1) 0 20 = okT 20 := by kernel_rfl
theorem sg_9_3 : okA (sgX 9 3) 0 20 = okT 20 := by kernel_rfl
theorem sg_12_2 : okA (sgX 12 2) 0 20 = okT 20 := by kernel_rfl
theorem sg_12_10 : okA (sgX 12 10) 0 20 = okT 20 := by kernel_rfl
theorem sg_13_6 : okA (sgX 13 6) 0 20 = okT 20 := by kernel_rfl
theorem sg_15_1 : okA (sgX 15 1) 0 20 = okT 20 := by kernel_rfl
theorem sg_15_12 : okA (sgX 15 12) 0 20 = okT 20 := by kernel_rfl
theorem sg_16_4 : okA (sgX 16 4) 0 20 = okT 20 := by kernel_rfl
theorem sg_17_0 : okA (sgX 17 0) 0 20 = okT 20 := by kernel_rfl
theorem sg_17_6 : okA (sgX 17 6) 0 20 = okT 20 := by kernel_rfl
theorem sg_18_6 : okA (sgX 18 6) 0 20 = okT 20 := by kernel_rfl
theorem sg_19_12 : okA (sgX 19 12) 0 20 = okT 20 := by kernel_rfl
theorem sg_20_2 : okA (sgX 20 2) 0 20 = okT 20 := by kernel_rfl
theorem sg_20_14 : okA (sgX 20 14) 0 20 = okT 20 := by kernel_rfl
end Go.Proofs.YtbckjaoljeimgaaGreatDoor
