/- PromiseChains: runs, seen by the kernel (Finish: from job to job, part 6). -/
import Derived.Test.YtbckjaoljeimgaaGreatDoorChU
import Derived.KernelRfl
namespace Go.Proofs.YtbckjaoljeimgaaGreatDoor
open Go Go.Ev
set_option maxRecDepth 1000000
set_option maxHeartbeats 400000000
theorem sg_5_3 : okA (sgX 5 3) 0 20 = okT 20 := by kernel_rfl
theorem sg_6_3 : okA (sgX 6 3) 0 20 = okT 20 := by kernel_rfl
theorem sg_9_6 : okA (sgX 9 6) 0 20 = okT 20 := by kernel_rfl
theorem sg_10_2 : okA (sgX 10 2) 0 20 = okT 20 := by kernel_rfl
theorem sg_11_3 : okA (sgX 11 3) 0 20 = okT 20 := by kernel_rfl
theorem sg_12_6 : okA (sgX 12 6) 0 20 = okT 20 := by kernel_rfl
theorem sg_14_2 : okA (sgX 14 2) 0 20 = okT 20 := by kernel_rfl
theorem sg_14_11 : okA (sgX 14 11) 0 20 = okT 20 := by kernel_rfl
theorem sg_15_5 : okA (sgX 15 5) 0 20 = okT 20 := by kernel_rfl
theorem sg_16_8 : okA (sgX 16 8) 0 20 = okT 20 := by kernel_rfl
theorem sg_17_4 : okA (sgX 17 4) 0 20 = okT 20 := by kernel_rfl
theorem sg_17_10 : okA (sgX 17 10) 0 20 = okT 20 := by kernel_rfl
theorem sg_18_10 : okA (sgX 18 10) 0 20 = okT 20 := by kernel_rfl
theorem sg_19_16 : okA (sgX 19 16) 0 20 = okT 20 := by kernel_rfl
theorem sg_20_6 : okA (sgX 20 6) 0 20 = okT 20 := by kernel_rfl
theorem sg_20_18 : okA (sgX 20 18) 0 20 = okT 20 := by kernel_rfl
end Go.Proofs.YtbckjaoljeimgaaGreatDoor
