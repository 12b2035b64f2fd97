/- PromiseChains: runs, seen by the kernel (Finish: from job to job, part 0). -/
import Derived.Test.YtbckjaoljeimgaaGreatDoorChU
import Derived.KernelRfl
namespace Go.Proofs.YtbckjaoljeimgaaGreatDoor
open Go Go.Ev
set_option maxRecDepth 1000000
set_option maxHeartbeats 400000000
theorem sg_3_1 : okA (sgX 3 1) 0 20 = okT 20 := by kernel_rfl
theorem sg_7_3 : okA (sgX 7 3) 0 20 = okT 20 := by kernel_rfl
theorem sg_8_4 : okA (sgX 8 4) 0 20 = okT 20 := by kernel_rfl
theorem sg_10_8 : okA (sgX 10 8) 0 20 = okT 20 := by kernel_rfl
theorem sg_12_0 : okA (sgX 12 0) 0 20 = okT 20 := by kernel_rfl
theorem sg_12_8 : okA (sgX 12 8) 0 20 = okT 20 := by kernel_rfl
theorem sg_13_4 : okA (sgX 13 4) 0 20 = okT 20 := by kernel_rfl
theorem sg_14_8 : okA (sgX 14 8) 0 20 = okT 20 := by kernel_rfl
theorem sg_16_0 : okA (sgX 16 0) 0 20 = okT 20 := by kernel_rfl
theorem sg_16_2 : okA (sgX 16 2) 0 20 = okT 20 := by kernel_rfl
theorem sg_16_14 : okA (sgX 16 14) 0 20 = okT 20 := by kernel_rfl
theorem sg_18_4 : okA (sgX 18 4) 0 20 = okT 20 := by kernel_rfl
theorem sg_18_15 : okA (sgX 18 15) 0 20 = okT 20 := by kernel_rfl
theorem sg_19_10 : okA (sgX 19 10) 0 20 = okT 20 := by kernel_rfl
theorem sg_20_0 : okA (sgX 20 0) 0 20 = okT 20 := by kernel_rfl
theorem sg_20_12 : okA (sgX 20 12) 0 20 = okT 20 := by kernel_rfl
end Go.Proofs.YtbckjaoljeimgaaGreatDoor
