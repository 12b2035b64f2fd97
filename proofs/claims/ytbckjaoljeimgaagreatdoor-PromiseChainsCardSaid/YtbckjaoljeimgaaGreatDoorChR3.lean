/- PromiseChains: runs, seen by the kernel (Finish: from job to job, part 3). -/
import Derived.Test.YtbckjaoljeimgaaGreatDoorChU
import Derived.KernelRfl
namespace Go.Proofs.YtbckjaoljeimgaaGreatDoor
open Go Go.Ev
set_option maxRecDepth 1000000
set_option maxHeartbeats 400000000
theorem sg_5_0 : okA (sgX 5 0) 0 20 = okT 20 := by kernel_rfl
theorem sg_6_0 : okA (sgX 6 0) 0 20 = okT 20 := by kernel_rfl
theorem sg_8_5 : okA (sgX 8 5) 0 20 = okT 20 := by kernel_rfl
theorem sg_11_0 : okA (sgX 11 0) 0 20 = okT 20 := by kernel_rfl
theorem sg_11_9 : okA (sgX 11 9) 0 20 = okT 20 := by kernel_rfl
theorem sg_12_3 : okA (sgX 12 3) 0 20 = okT 20 := by kernel_rfl
theorem sg_13_7 : okA (sgX 13 7) 0 20 = okT 20 := by kernel_rfl
theorem sg_15_2 : okA (sgX 15 2) 0 20 = okT 20 := by kernel_rfl
theorem sg_15_13 : okA (sgX 15 13) 0 20 = okT 20 := by kernel_rfl
theorem sg_16_5 : okA (sgX 16 5) 0 20 = okT 20 := by kernel_rfl
theorem sg_17_1 : okA (sgX 17 1) 0 20 = okT 20 := by kernel_rfl
theorem sg_17_7 : okA (sgX 17 7) 0 20 = okT 20 := by kernel_rfl
theorem sg_18_7 : okA (sgX 18 7) 0 20 = okT 20 := by kernel_rfl
theorem sg_19_13 : okA (sgX 19 13) 0 20 = okT 20 := by kernel_rfl
theorem sg_20_3 : okA (sgX 20 3) 0 20 = okT 20 := by kernel_rfl
theorem sg_20_15 : okA (sgX 20 15) 0 20 = okT 20 := by kernel_rfl
end Go.Proofs.YtbckjaoljeimgaaGreatDoor
