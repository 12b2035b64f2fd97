/- PromiseChains: runs, seen by the kernel (Finish: from job to job, part 11). -/
import Derived.Test.YtbckjaoljeimgaaGreatDoorChU
import Derived.KernelRfl
namespace Go.Proofs.YtbckjaoljeimgaaGreatDoor
open Go Go.Ev
set_option maxRecDepth 1000000
set_option maxHeartbeats 400000000
theorem sg_3_0 : okA (sgX 3 0) 0 20 = okT 20 := by kernel_rfl
theorem sg_7_2 : okA (sgX 7 2) 0 20 = okT 20 := by kernel_rfl
theorem sg_8_3 : okA (sgX 8 3) 0 20 = okT 20 := by kernel_rfl
theorem sg_10_7 : okA (sgX 10 7) 0 20 = okT 20 := by kernel_rfl
theorem sg_11_8 : okA (sgX 11 8) 0 20 = okT 20 := by kernel_rfl
theorem sg_13_3 : okA (sgX 13 3) 0 20 = okT 20 := by kernel_rfl
theorem sg_13_11 : okA (sgX 13 11) 0 20 = okT 20 := by kernel_rfl
theorem sg_14_7 : okA (sgX 14 7) 0 20 = okT 20 := by kernel_rfl
theorem sg_15_10 : okA (sgX 15 10) 0 20 = okT 20 := by kernel_rfl
theorem sg_16_13 : okA (sgX 16 13) 0 20 = okT 20 := by kernel_rfl
theorem sg_17_15 : okA (sgX 17 15) 0 20 = okT 20 := by kernel_rfl
theorem sg_18_3 : okA (sgX 18 3) 0 20 = okT 20 := by kernel_rfl
theorem sg_18_14 : okA (sgX 18 14) 0 20 = okT 20 := by kernel_rfl
theorem sg_19_4 : okA (sgX 19 4) 0 20 = okT 20 := by kernel_rfl
theorem sg_19_9 : okA (sgX 19 9) 0 20 = okT 20 := by kernel_rfl
theorem sg_20_11 : okA (sgX 20 11) 0 20 = okT 20 := by kernel_rfl
end Go.Proofs.YtbckjaoljeimgaaGreatDoor
