/- The lifted forms are those of the program: by the kernel (part 1). -/
import Derived.Test.YtbckjaoljeimgaaGreatDoorRunC0
import Derived.KernelRfl
namespace Go.Proofs.YtbckjaoljeimgaaGreatDoor
open Go Go.Ev
set_option maxRecDepth 1000000
set_option maxHeartbeats 40000000
theorem h8 : lowO Tryz.prog tyI fnF glo0 drawn 1000000 8 2 (.p [] .z (.p [0,1] .z (.p [0,1] .z (.p [] .z (.p [0,6] .z .z))))) = some F8 := by kernel_rfl
theorem h20 : lowO Tryz.prog tyI fnF glo0 drawn 1000000 20 2 (.p [] .z (.p [] .z (.p [5,7] .z .z))) = some F20 := by kernel_rfl
theorem h27 : lowO Tryz.prog tyI fnF glo0 drawn 1000000 27 2 (.p [] .z (.p [3,4] (.u [] (.u [2,3,4] (.p [2,3,4] .z (.u [] (.p [] .z (.p [2,3,4,5] .z (.p [2,3,4] .z (.p [] .z (.p [] .z (.u [] (.p [2,3,4,6,39,40] .z .z))))))))))) .z)) = some F27 := by kernel_rfl
theorem h36 : lowO Tryz.prog tyI fnF glo0 drawn 1000000 36 2 .z = some F36 := by kernel_rfl
theorem h39 : lowO Tryz.prog tyI fnF glo0 drawn 1000000 39 1 .z = some F39 := by kernel_rfl
theorem h40 : lowO Tryz.prog tyI fnF glo0 drawn 1000000 40 2 (.p [] .z (.p [0,3] .z (.p [] .z (.p [5] .z .z)))) = some F40 := by kernel_rfl
theorem h62 : lowO Tryz.prog tyI fnF glo0 drawn 1000000 62 3 (.p [] .z (.p [] .z (.u [] (.p [] .z (.p [] (.p [] .z (.p [3,5,6] .z .z)) .z))))) = some F62 := by kernel_rfl
theorem h63 : lowO Tryz.prog tyI fnF glo0 drawn 1000000 63 3 (.p [] .z (.p [] .z (.p [1,3,5,6] (.p [] .z (.u [] (.p [1,3,5,6,14,15] .z (.p [] (.p [1,3,5] .z .z) (.p [1,3,5,6,42] .z .z))))) (.p [] .z (.u [] (.p [1,3,5,6,51,52] .z (.p [] .z (.p [1,3,5,6,51,63] .z (.p [] .z (.p [1,3,5,6,51,76] .z (.p [] .z (.p [] .z (.p [] .z (.p [] .z (.p [] (.p [] .z (.p [] .z (.p [1,8,9] (.p [] .z (.u [] (.u [1,8,9,97,98] (.p [] .z (.p [1,8,9,97,98] .z (.p [1,8,9,97,98] .z .z)))))) .z))) (.p [] .z (.p [] .z (.p [] .z (.p [] (.p [] .z (.p [] .z (.p [1,3,10,11] .z .z))) .z))))))))))))))))))) = some F63 := by kernel_rfl
theorem h74 : lowO Tryz.prog tyI fnF glo0 drawn 1000000 74 6 (.p [] .z (.p [] .z (.p [] .z (.p [3,12,13,14] .z (.p [12,14] (.p [] .z (.u [] (.u [3,12,13,14,64,65] (.p [] .z (.p [3,12,13,14,64,65] .z (.p [3,12,13,14,64,65] (.u [] (.p [] .z (.p [] .z (.p [3,12,13,14,16,64,65] .z .z)))) .z)))))) .z))))) = some F74 := by kernel_rfl
theorem h95 : lowO Tryz.prog tyI fnF glo0 drawn 1000000 95 2 (.p [] .z (.p [2,3] .z .z)) = some F95 := by kernel_rfl
theorem h97 : lowO Tryz.prog tyI fnF glo0 drawn 1000000 97 2 (.p [] .z (.p [2,3,4] .z (.p [] .z (.p [3,4,5] .z .z)))) = some F97 := by kernel_rfl
theorem h98 : lowO Tryz.prog tyI fnF glo0 drawn 1000000 98 2 (.p [] .z (.p [0,3] .z .z)) = some F98 := by kernel_rfl
theorem h106 : lowO Tryz.prog tyI fnF glo0 drawn 1000000 106 1 (.p [] .z (.p [2] .z .z)) = some F106 := by kernel_rfl
theorem h108 : lowO Tryz.prog tyI fnF glo0 drawn 1000000 108 2 (.p [] .z (.p [3,4] .z .z)) = some F108 := by kernel_rfl
theorem h125 : lowO Tryz.prog tyI fnF glo0 drawn 1000000 125 3 (.p [] .z (.p [] .z (.p [1,2,6] .z (.p [] .z (.p [1,2,6,7] .z (.p [1,2,6,7] .z .z)))))) = some F125 := by kernel_rfl
theorem h127 : lowO Tryz.prog tyI fnF glo0 drawn 1000000 127 1 (.p [] .z (.p [0] .z .z)) = some F127 := by kernel_rfl
theorem h134 : lowO Tryz.prog tyI fnF glo0 drawn 1000000 134 2 (.p [] .z (.p [0,3] .z .z)) = some F134 := by kernel_rfl
end Go.Proofs.YtbckjaoljeimgaaGreatDoor
