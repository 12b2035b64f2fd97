/- The lifted forms are those of the program: by the kernel (part 0). -/
import Derived.Test.YtbckjaoljeimgaaGreatDoorRunC0
import Derived.KernelRfl
namespace Go.Proofs.YtbckjaoljeimgaaGreatDoor
open Go Go.Ev
set_option maxRecDepth 1000000
set_option maxHeartbeats 40000000
theorem h7 : lowO Tryz.prog tyI fnF glo0 drawn 1000000 7 1 .z = some F7 := by kernel_rfl
theorem h9 : lowO Tryz.prog tyI fnF glo0 drawn 1000000 9 3 (.p [] .z (.p [0,1,2,6] .z (.p [0,1,2,6] .z (.p [] .z (.p [] .z (.p [0,2,6,7,8] (.p [] .z (.p [] (.p [6,8] (.p [] .z (.p [] (.p [] .z (.p [0,6,8,9] .z .z)) .z)) .z) .z)) (.p [] .z (.p [] .z (.p [2,6,7,8] .z (.p [2,6,7,8] .z .z)))))))))) = some F9 := by kernel_rfl
theorem h24 : lowO Tryz.prog tyI fnF glo0 drawn 1000000 24 1 .z = some F24 := by kernel_rfl
theorem h26 : lowO Tryz.prog tyI fnF glo0 drawn 1000000 26 2 (.p [] .z (.p [] .z (.p [] (.p [] .z (.p [0,1,3] .z .z)) .z))) = some F26 := by kernel_rfl
theorem h41 : lowO Tryz.prog tyI fnF glo0 drawn 1000000 41 6 (.p [] .z (.p [0,1,2,9,10,11] .z .z)) = some F41 := by kernel_rfl
theorem h42 : lowO Tryz.prog tyI fnF glo0 drawn 1000000 42 2 .z = some F42 := by kernel_rfl
theorem h45 : lowO Tryz.prog tyI fnF glo0 drawn 1000000 45 1 (.p [] .z (.p [0,2] .z .z)) = some F45 := by kernel_rfl
theorem h48 : lowO Tryz.prog tyI fnF glo0 drawn 1000000 48 2 (.p [] .z (.p [1,2] .z .z)) = some F48 := by kernel_rfl
theorem h52 : lowO Tryz.prog tyI fnF glo0 drawn 1000000 52 2 (.p [] .z (.p [] .z (.p [] .z (.p [5,6] .z .z)))) = some F52 := by kernel_rfl
theorem h56 : lowO Tryz.prog tyI fnF glo0 drawn 1000000 56 1 .z = some F56 := by kernel_rfl
theorem h75 : lowO Tryz.prog tyI fnF glo0 drawn 1000000 75 4 (.p [] .z (.p [] .z (.p [8] .z .z))) = some F75 := by kernel_rfl
theorem h119 : lowO Tryz.prog tyI fnF glo0 drawn 1000000 119 4 (.p [] .z (.p [1,4,6,7,8] (.p [] .z (.u [] (.p [] .z (.p [] .z (.p [] .z (.p [] (.p [4,6,7,8] .z .z) .z)))))) .z)) = some F119 := by kernel_rfl
theorem h126 : lowO Tryz.prog tyI fnF glo0 drawn 1000000 126 1 (.p [] .z (.p [0,2] .z .z)) = some F126 := by kernel_rfl
theorem h128 : lowO Tryz.prog tyI fnF glo0 drawn 1000000 128 2 .z = some F128 := by kernel_rfl
theorem h222 : lowO Tryz.prog tyI fnF glo0 drawn 1000000 222 2 (.p [] .z (.p [2,3,4] .z (.p [2,3,4] .z (.p [] .z (.p [] .z (.p [4,6,8] .z (.p [4,6,8] .z .z))))))) = some F222 := by kernel_rfl
theorem h223 : lowO Tryz.prog tyI fnF glo0 drawn 1000000 223 3 (.p [] .z (.p [0,1,2,6] .z (.p [0,1,2,6] .z (.p [0,1,2,6] (.p [] .z (.p [] (.p [6] .z .z) .z)) (.p [1,2,6] .z .z))))) = some F223 := by kernel_rfl
end Go.Proofs.YtbckjaoljeimgaaGreatDoor
