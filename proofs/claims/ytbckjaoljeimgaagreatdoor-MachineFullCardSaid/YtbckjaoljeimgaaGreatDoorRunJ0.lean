/- The lifted forms are those of the program: by the kernel (part 0). -/
import Derived.Test.YtbckjaoljeimgaaGreatDoorRunC0
import Derived.KernelRfl
namespace Go.Proofs.YtbckjaoljeimgaaGreatDoor
open Go Go.Ev
set_option maxRecDepth 1000000
set_option maxHeartbeats 40000000
theorem h9 : lowO Tryz.prog tyI fnF glo0 drawn 1000000 9 3 (.p [] .z (.p [0,1,2,6] .z (.p [0,1,2,6] .z (.p [] .z (.p [] .z (.p [0,2,6,7,8] (.p [] .z (.p [] (.p [6,8] (.p [] .z (.p [] (.p [] .z (.p [0,6,8,9] .z .z)) .z)) .z) .z)) (.p [] .z (.p [] .z (.p [2,6,7,8] .z (.p [2,6,7,8] .z .z)))))))))) = some F9 := by kernel_rfl
theorem h12 : lowO Tryz.prog tyI fnF glo0 drawn 1000000 12 1 .z = some F12 := by kernel_rfl
theorem h26 : lowO Tryz.prog tyI fnF glo0 drawn 1000000 26 2 (.p [] .z (.p [] .z (.p [] (.p [] .z (.p [0,1,3] .z .z)) .z))) = some F26 := by kernel_rfl
theorem h38 : lowO Tryz.prog tyI fnF glo0 drawn 1000000 38 2 .z = some F38 := by kernel_rfl
theorem h39 : lowO Tryz.prog tyI fnF glo0 drawn 1000000 39 1 .z = some F39 := by kernel_rfl
theorem h48 : lowO Tryz.prog tyI fnF glo0 drawn 1000000 48 2 (.p [] .z (.p [1,2] .z .z)) = some F48 := by kernel_rfl
theorem h65 : lowO Tryz.prog tyI fnF glo0 drawn 1000000 65 3 (.p [] .z (.p [] .z (.p [2,7] .z .z))) = some F65 := by kernel_rfl
theorem h131 : lowO Tryz.prog tyI fnF glo0 drawn 1000000 131 2 (.p [] .z (.p [] .z (.p [0,5] .z .z))) = some F131 := by kernel_rfl
theorem h165 : lowO Tryz.prog tyI fnF glo0 drawn 1000000 165 1 (.p [] .z (.p [] .z (.p [1] .z .z))) = some F165 := by kernel_rfl
theorem h201 : lowO Tryz.prog tyI fnF glo0 drawn 1000000 201 2 .z = some F201 := by kernel_rfl
theorem h218 : lowO Tryz.prog tyI fnF glo0 drawn 1000000 218 3 .z = some F218 := by kernel_rfl
theorem h238 : lowO Tryz.prog tyI fnF glo0 drawn 1000000 238 2 (.p [] .z (.p [] .z (.p [0,1,4,5] .z (.p [] .z (.u [] (.u [0,1,4,5,6] (.u [] (.p [] .z (.p [0,1,4,5,6,7] .z (.p [] .z (.p [0,1,4,5,6,8] .z (.p [] .z (.p [] .z (.p [0,1,4,5,6,8,9] .z .z)))))))))))))) = some F238 := by kernel_rfl
theorem h275 : lowO Tryz.prog tyI fnF glo0 drawn 1000000 275 1 .z = some F275 := by kernel_rfl
theorem h280 : lowO Tryz.prog tyI fnF glo0 drawn 1000000 280 1 (.p [] .z (.p [0] (.u [] (.p [0,3] .z .z)) (.p [0] (.p [] .z (.p [] (.p [] .z (.u [] (.p [0,15] .z .z))) .z)) .z))) = some F280 := by kernel_rfl
theorem h296 : lowO Tryz.prog tyI fnF glo0 drawn 1000000 296 2 (.p [] .z (.p [] (.p [] .z (.u [] (.u [0,3,7,8] (.p [] .z (.p [0,3,7,8] .z (.p [0,3,7,8] .z .z)))))) .z)) = some F296 := by kernel_rfl
end Go.Proofs.YtbckjaoljeimgaaGreatDoor
