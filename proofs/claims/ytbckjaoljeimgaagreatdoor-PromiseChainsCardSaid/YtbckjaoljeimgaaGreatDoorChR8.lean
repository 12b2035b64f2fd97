/- PromiseChains: runs, seen by the kernel (Finish: from job to job, part 8). -/
import Derived.Test.YtbckjaoljeimgaaGreatDoorChU
import Derived.KernelRfl
namespace Go.Proofs.YtbckjaoljeimgaaGreatDoor
open Go Go.Ev
set_option maxRecDepth 1000000
set_option maxHeartbeats 400000000
theorem sg_8_0 : okA (sgX 8 0) 0 20 = okT 20 := by kernel_rfl
theorem sg_8_6 : okA (sgX 8 6) 0 20 = okT 20 := by kernel_rfl
theorem sg_10_4 : okA (sgX 10 4) 0 20 = okT 20 := by kernel_rfl
theorem sg_11_5 : okA (sgX 11 5) 0 20 = okT 20 := by kernel_rfl
theorem sg_13_0 : okA (sgX 13 0) 0 20 = okT 20 := by kernel_rfl
theorem sg_13_8 : okA (sgX 13 8) 0 20 = okT 20 := by kernel_rfl
theorem sg_14_4 : okA (sgX 14 4) 0 20 = okT 20 := by kernel_rfl
theorem sg_15_7 : okA (sgX 15 7) 0 20 = okT 20 := by kernel_rfl
theorem sg_16_10 : okA (sgX 16 10) 0 20 = okT 20 := by kernel_rfl
theorem sg_17_12 : okA (sgX 17 12) 0 20 = okT 20 := by kernel_rfl
theorem sg_18_0 : okA (sgX 18 0) 0 20 = okT 20 := by kernel_rfl
theorem sg_18_11 : okA (sgX 18 11) 0 20 = okT 20 := by kernel_rfl
theorem sg_19_1 : okA (sgX 19 1) 0 20 = okT 20 := by kernel_rfl
theorem sg_19_6 : okA (sgX 19 6) 0 20 = okT 20 := by kernel_rfl
theorem sg_20_8 : okA (sgX 20 8) 0 20 = okT 20 := by kernel_rfl
end Go.Proofs.YtbckjaoljeimgaaGreatDoor
