/- PromiseChains: runs, seen by the kernel (Finish: from job to job, part 10). -/
import Derived.Test.YtbckjaoljeimgaaGreatDoorChU
import Derived.KernelRfl
namespace Go.Proofs.YtbckjaoljeimgaaGreatDoor
open Go Go.Ev
set_option maxRecDepth 1000000
set_option maxHeartbeats 400000000
theorem sg_4_2 : okA (sgX 4 2) 0 20 = okT 20 := by kernel_rfl
theorem sg_7_1 : okA (sgX 7 1) 0 20 = okT 20 := by kernel_rfl
theorem sg_8_2 : okA (sgX 8 2) 0 20 = okT 20 := by kernel_rfl
theorem sg_10_6 : okA (sgX 10 6) 0 20 = okT 20 := by kernel_rfl
theorem sg_11_7 : okA (sgX 11 7) 0 20 = okT 20 := by kernel_rfl
theorem sg_13_2 : okA (sgX 13 2) 0 20 = okT 20 := by kernel_rfl
theorem sg_13_10 : okA (sgX 13 10) 0 20 = okT 20 := by kernel_rfl
theorem sg_14_6 : okA (sgX 14 6) 0 20 = okT 20 := by kernel_rfl
theorem sg_15_9 : okA (sgX 15 9) 0 20 = okT 20 := by kernel_rfl
theorem sg_16_12 : okA (sgX 16 12) 0 20 = okT 20 := by kernel_rfl
theorem sg_17_14 : okA (sgX 17 14) 0 20 = okT 20 := by kernel_rfl
theorem sg_18_2 : okA (sgX 18 2) 0 20 = okT 20 := by kernel_rfl
theorem sg_18_13 : okA (sgX 18 13) 0 20 = okT 20 := by kernel_rfl
theorem sg_19_3 : okA (sgX 19 3) 0 20 = okT 20 := by kernel_rfl
theorem sg_19_8 : okA (sgX 19 8) 0 20 = okT 20 := by kernel_rfl
theorem sg_20_10 : okA (sgX 20 10) 0 20 = okT 20 := by kernel_rfl
end Go.Proofs.YtbckjaoljeimgaaGreatDoor
