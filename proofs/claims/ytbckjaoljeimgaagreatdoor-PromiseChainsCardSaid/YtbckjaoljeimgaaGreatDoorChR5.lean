/- PromiseChains: runs, seen by the kernel (Finish: from job to job, part 5). -/
import Derived.Test.YtbckjaoljeimgaaGreatDoorChU
import Derived.KernelRfl
namespace Go.Proofs.YtbckjaoljeimgaaGreatDoor
open Go Go.Ev
set_option maxRecDepth 1000000
set_option maxHeartbeats 400000000
theorem sg_5_2 : okA (sgX 5 2) 0 20 = okT 20 := by kernel_rfl
theorem sg_6_2 : okA (sgX 6 2) 0 20 = okT 20 := by kernel_rfl
theorem sg_9_5 : okA (sgX 9 5) 0 20 = okT 20 := by kernel_rfl
theorem sg_10_1 : okA (sgX 10 1) 0 20 = okT 20 := by kernel_rfl
theorem sg_11_2 : okA (sgX 11 2) 0 20 = okT 20 := by kernel_rfl
theorem sg_12_5 : okA (sgX 12 5) 0 20 = okT 20 := by kernel_rfl
theorem sg_14_1 : okA (sgX 14 1) 0 20 = okT 20 := by kernel_rfl
theorem sg_14_10 : okA (sgX 14 10) 0 20 = okT 20 := by kernel_rfl
theorem sg_15_4 : okA (sgX 15 4) 0 20 = okT 20 := by kernel_rfl
theorem sg_16_7 : okA (sgX 16 7) 0 20 = okT 20 := by kernel_rfl
theorem sg_17_3 : okA (sgX 17 3) 0 20 = okT 20 := by kernel_rfl
theorem sg_17_9 : okA (sgX 17 9) 0 20 = okT 20 := by kernel_rfl
theorem sg_18_9 : okA (sgX 18 9) 0 20 = okT 20 := by kernel_rfl
theorem sg_19_15 : okA (sgX 19 15) 0 20 = okT 20 := by kernel_rfl
theorem sg_20_5 : okA (sgX 20 5) 0 20 = okT 20 := by kernel_rfl
theorem sg_20_17 : okA (sgX 20 17) 0 20 = okT 20 := by kernel_rfl
end Go.Proofs.YtbckjaoljeimgaaGreatDoor
