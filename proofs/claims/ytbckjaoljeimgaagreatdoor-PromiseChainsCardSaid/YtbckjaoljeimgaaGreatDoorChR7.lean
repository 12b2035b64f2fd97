/- PromiseChains: runs, seen by the kernel (Finish: from job to job, part 7). -/
import Derived.Test.YtbckjaoljeimgaaGreatDoorChU
import Derived.KernelRfl
namespace Go.Proofs.YtbckjaoljeimgaaGreatDoor
open Go Go.Ev
set_option maxRecDepth 1000000
set_option maxHeartbeats 400000000
theorem sg_4_0 : okA (sgX 4 0) 0 20 = okT 20 := by kernel_rfl
theorem sg_6_4 : okA (sgX 6 4) 0 20 = okT 20 := by kernel_rfl
theorem sg_9_7 : okA (sgX 9 7) 0 20 = okT 20 := by kernel_rfl
theorem sg_10_3 : okA (sgX 10 3) 0 20 = okT 20 := by kernel_rfl
theorem sg_11_4 : okA (sgX 11 4) 0 20 = okT 20 := by kernel_rfl
theorem sg_12_7 : okA (sgX 12 7) 0 20 = okT 20 := by kernel_rfl
theorem sg_14_3 : okA (sgX 14 3) 0 20 = okT 20 := by kernel_rfl
theorem sg_14_12 : okA (sgX 14 12) 0 20 = okT 20 := by kernel_rfl
theorem sg_15_6 : okA (sgX 15 6) 0 20 = okT 20 := by kernel_rfl
theorem sg_16_9 : okA (sgX 16 9) 0 20 = okT 20 := by kernel_rfl
theorem sg_17_5 : okA (sgX 17 5) 0 20 = okT 20 := by kernel_rfl
theorem sg_17_11 : okA (sgX 17 11) 0 20 = okT 20 := by kernel_rfl
theorem sg_19_0 : okA (sgX 19 0) 0 20 = okT 20 := by kernel_rfl
theorem sg_19_5 : okA (sgX 19 5) 0 20 = okT 20 := by kernel_rfl
theorem sg_19_17 : okA (sgX 19 17) 0 20 = okT 20 := by kernel_rfl
theorem sg_20_7 : okA (sgX 20 7) 0 20 = okT 20 := by kernel_rfl
end Go.Proofs.YtbckjaoljeimgaaGreatDoor
