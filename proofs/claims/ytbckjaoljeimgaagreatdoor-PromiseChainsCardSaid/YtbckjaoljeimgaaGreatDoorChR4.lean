/- PromiseChains: runs, seen by the kernel (Finish: from job to job, part 4). -/
import Derived.Test.YtbckjaoljeimgaaGreatDoorChU
import Derived.KernelRfl
namespace Go.Proofs.YtbckjaoljeimgaaGreatDoor
open Go Go.Ev
set_option maxRecDepth 1000000
set_option maxHeartbeats 400000000
theorem sg_5_1 : okA (sgX 5 1) 0 20 = okT 20 := by kernel_rfl
theorem sg_6_1 : okA (sgX 6 1) 0 20 = okT 20 := by kernel_rfl
theorem sg_9_4 : okA (sgX 9 4) 0 20 = okT 20 := by kernel_rfl
theorem sg_10_0 : okA (sgX 10 0) 0 20 = okT 20 := by kernel_rfl
theorem sg_11_1 : okA (sgX 11 1) 0 20 = okT 20 := by kernel_rfl
theorem sg_12_4 : okA (sgX 12 4) 0 20 = okT 20 := by kernel_rfl
theorem sg_14_0 : okA (sgX 14 0) 0 20 = okT 20 := by kernel_rfl
theorem sg_14_9 : okA (sgX 14 9) 0 20 = okT 20 := by kernel_rfl
theorem sg_15_3 : okA (sgX 15 3) 0 20 = okT 20 := by kernel_rfl
theorem sg_16_6 : okA (sgX 16 6) 0 20 = okT 20 := by kernel_rfl
theorem sg_17_2 : okA (sgX 17 2) 0 20 = okT 20 := by kernel_rfl
theorem sg_17_8 : okA (sgX 17 8) 0 20 = okT 20 := by kernel_rfl
theorem sg_18_8 : okA (sgX 18 8) 0 20 = okT 20 := by kernel_rfl
theorem sg_19_14 : okA (sgX 19 14) 0 20 = okT 20 := by kernel_rfl
theorem sg_20_4 : okA (sgX 20 4) 0 20 = okT 20 := by kernel_rfl
theorem sg_20_16 : okA (sgX 20 16) 0 20 = okT 20 := by kernel_rfl
end Go.Proofs.YtbckjaoljeimgaaGreatDoor
