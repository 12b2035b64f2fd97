/- PromiseChains: runs, seen by the kernel (Finish: from job to job, part 9). -/
import Derived.Test.YtbckjaoljeimgaaGreatDoorChU
import Derived.KernelRfl
namespace Go.Proofs.YtbckjaoljeimgaaGreatDoor
open Go Go.Ev
set_option maxRecDepth 1000000
set_option maxHeartbeats 400000000
theorem sg_4_1 : okA (sgX 4 1) 0 20 = okT 20 := by kernel_rfl
theorem sg_7_0 : okA (sgX 7 0) 0 20 = okT 20 := by kernel_rfl
theorem sg_8_1 : okA (sgX 8 1) 0 20 = okT 20 := by kernel_rfl
theorem sg_10_5 : okA (sgX 10 5) 0 20 = okT 20 := by kernel_rfl
theorem sg_11_6 : okA (sgX 11 6) 0 20 = okT 20 := by kernel_rfl
theorem sg_13_1 : okA (sgX 13 1) 0 20 = okT 20 := by kernel_rfl
theorem sg_13_9 : okA (sgX 13 9) 0 20 = okT 20 := by kernel_rfl
theorem sg_14_5 : okA (sgX 14 5) 0 20 = okT 20 := by kernel_rfl
theorem sg_15_8 : okA (sgX 15 8) 0 20 = okT 20 := by kernel_rfl
theorem sg_16_11 : okA (sgX 16 11) 0 20 = okT 20 := by kernel_rfl
theorem sg_17_13 : okA (sgX 17 13) 0 20 = okT 20 := by kernel_rfl
theorem sg_18_1 : okA (sgX 18 1) 0 20 = okT 20 := by kernel_rfl
theorem sg_18_12 : okA (sgX 18 12) 0 20 = okT 20 := by kernel_rfl
theorem sg_19_2 : okA (sgX 19 2) 0 20 = okT 20 := by kernel_rfl
theorem sg_19_7 : okA (sgX 19 7) 0 20 = okT 20 := by kernel_rfl
theorem sg_20_9 : okA (sgX 20 9) 0 20 = okT 20 := by kernel_rfl
end Go.Proofs.YtbckjaoljeimgaaGreatDoor
