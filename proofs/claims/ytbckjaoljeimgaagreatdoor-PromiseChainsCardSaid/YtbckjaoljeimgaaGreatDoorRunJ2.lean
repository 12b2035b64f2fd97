/- The lifted forms are those of the program: by the kernel (part 2). -/
import Derived.Test.YtbckjaoljeimgaaGreatDoorRunC0
import Derived.KernelRfl
namespace Go.Proofs.YtbckjaoljeimgaaGreatDoor
open Go Go.Ev
set_option maxRecDepth 1000000
set_option maxHeartbeats 40000000
theorem h12 : lowO Tryz.prog tyI fnF glo0 drawn 1000000 12 1 .z = some F12 := by kernel_rfl
theorem h15 : lowO Tryz.prog tyI fnF glo0 drawn 1000000 15 2 (.p [] .z (.p [] (.p [] .z (.u [] (.u [0,1,5] (.p [0,1,5] .z (.p [0,1,5] .z .z))))) .z)) = some F15 := by kernel_rfl
theorem h19 : lowO Tryz.prog tyI fnF glo0 drawn 1000000 19 4 (.p [] .z (.p [] .z (.p [0,1,6,7,9] .z (.p [0,1,7,9] .z .z)))) = some F19 := by kernel_rfl
theorem h23 : lowO Tryz.prog tyI fnF glo0 drawn 1000000 23 2 (.p [] .z (.p [] .z (.p [0,5] .z .z))) = some F23 := by kernel_rfl
theorem h25 : lowO Tryz.prog tyI fnF glo0 drawn 1000000 25 1 .z = some F25 := by kernel_rfl
theorem h49 : lowO Tryz.prog tyI fnF glo0 drawn 1000000 49 3 (.p [] .z (.p [1,3,5] .z (.p [] (.p [] .z (.u [] (.u [1,3,5,38,39,40] (.p [] .z (.p [1,3,5,38,39,40] .z (.p [1,3,5,38,39,40] (.u [] (.p [] .z (.p [1,3,5,8] .z (.p [1,5,8] (.u [] (.u [1,3,5,8] (.p [1,3,5,8] .z .z))) .z)))) .z)))))) .z))) = some F49 := by kernel_rfl
theorem h67 : lowO Tryz.prog tyI fnF glo0 drawn 1000000 67 3 (.p [] .z (.p [] .z (.u [] (.p [] .z (.p [] .z (.p [] .z (.p [] .z (.p [] .z (.p [] .z (.p [] .z (.p [] .z (.p [] .z (.p [] (.p [] .z (.p [] .z (.p [3,9,10] .z (.p [3,9,10] .z .z)))) (.p [] .z (.p [] .z (.p [] .z (.p [] (.p [] .z (.p [3,5,11] .z .z)) .z))))))))))))))))) = some F67 := by kernel_rfl
theorem h76 : lowO Tryz.prog tyI fnF glo0 drawn 1000000 76 1 (.p [] .z (.p [] .z (.p [2,4,5] .z .z))) = some F76 := by kernel_rfl
theorem h78 : lowO Tryz.prog tyI fnF glo0 drawn 1000000 78 2 .z = some F78 := by kernel_rfl
theorem h84 : lowO Tryz.prog tyI fnF glo0 drawn 1000000 84 6 (.p [] .z (.p [] .z (.p [0,4,9,11,12,13] .z (.p [] .z (.p [9,11,12,14] .z .z))))) = some F84 := by kernel_rfl
theorem h93 : lowO Tryz.prog tyI fnF glo0 drawn 1000000 93 1 .z = some F93 := by kernel_rfl
theorem h124 : lowO Tryz.prog tyI fnF glo0 drawn 1000000 124 4 (.p [] .z (.p [] .z (.p [0,1,7,9] .z .z))) = some F124 := by kernel_rfl
theorem h130 : lowO Tryz.prog tyI fnF glo0 drawn 1000000 130 6 (.p [] .z (.p [1,2,5,6,9,10,12] .z (.p [1,2,5,6,9,10,12] .z (.p [] .z (.p [] .z (.p [] .z (.p [] .z (.p [] .z (.p [6,9,10,12,13,14,15] (.p [] .z (.u [] (.u [6,9,10,12,13,14,15,36,37,38] (.p [] .z (.p [6,9,10,12,13,14,15,36,37,38] .z (.p [6,9,10,12,13,14,15,36,37,38] .z .z)))))) (.p [9,10,12,13,15] .z .z)))))))))) = some F130 := by kernel_rfl
theorem h131 : lowO Tryz.prog tyI fnF glo0 drawn 1000000 131 2 (.p [] .z (.p [] .z (.p [0,5] .z .z))) = some F131 := by kernel_rfl
theorem h167 : lowO Tryz.prog tyI fnF glo0 drawn 1000000 167 3 (.p [] .z (.p [] .z (.p [6] (.p [] .z (.u [] (.p [] .z (.p [] .z (.p [0,4,5,6,12,20] .z (.p [] (.p [0,4,5,6] .z .z) (.p [0,4,5,6,12,42] .z (.p [] .z (.p [0,4,5,6,12,52] .z (.p [] .z (.p [0,4,5,6,62] .z .z))))))))))) .z))) = some F167 := by kernel_rfl
theorem h170 : lowO Tryz.prog tyI fnF glo0 drawn 1000000 170 3 (.p [] .z (.p [] .z (.p [] (.p [0,1,2] .z .z) .z))) = some F170 := by kernel_rfl
end Go.Proofs.YtbckjaoljeimgaaGreatDoor
