/- The lifted forms are those of the program: by the kernel (part 2). -/
import Derived.Test.YtbckjaoljeimgaaGreatDoorRunC0
import Derived.KernelRfl
namespace Go.Proofs.YtbckjaoljeimgaaGreatDoor
open Go Go.Ev
set_option maxRecDepth 1000000
set_option maxHeartbeats 40000000
theorem h8 : lowO Tryz.prog tyI fnF glo0 drawn 1000000 8 2 (.p [] .z (.p [0,1] .z (.p [0,1] .z (.p [] .z (.p [0,6] .z .z))))) = some F8 := by kernel_rfl
theorem h24 : lowO Tryz.prog tyI fnF glo0 drawn 1000000 24 1 .z = some F24 := by kernel_rfl
theorem h31 : lowO Tryz.prog tyI fnF glo0 drawn 1000000 31 1 (.p [] .z (.p [] .z (.p [] .z (.p [] (.p [] .z (.u [] (.p [] .z (.p [] .z (.p [] .z (.p [] .z (.p [] .z (.p [] .z (.p [] .z (.p [] .z (.p [] .z (.p [] (.p [0] .z .z) .z)))))))))))) .z)))) = some F31 := by kernel_rfl
theorem h42 : lowO Tryz.prog tyI fnF glo0 drawn 1000000 42 2 .z = some F42 := by kernel_rfl
theorem h80 : lowO Tryz.prog tyI fnF glo0 drawn 1000000 80 2 (.p [] .z (.p [] (.p [] .z (.u [] (.u [0,1,7,8] (.p [] .z (.p [0,1,7,8] .z (.p [0,1,7,8] .z .z)))))) .z)) = some F80 := by kernel_rfl
theorem h81 : lowO Tryz.prog tyI fnF glo0 drawn 1000000 81 2 .z = some F81 := by kernel_rfl
theorem h105 : lowO Tryz.prog tyI fnF glo0 drawn 1000000 105 2 .z = some F105 := by kernel_rfl
theorem h140 : lowO Tryz.prog tyI fnF glo0 drawn 1000000 140 2 (.p [] .z (.p [1,2] .z (.p [] (.p [] .z (.u [] (.u [1,10,11,12] (.p [] .z (.p [1,10,11,12] .z (.p [1,10,11,12] .z .z)))))) .z))) = some F140 := by kernel_rfl
theorem h149 : lowO Tryz.prog tyI fnF glo0 drawn 1000000 149 1 (.p [] .z (.p [2] (.u [] (.p [] .z (.p [] (.p [] .z (.p [2,4] .z .z)) (.p [] .z (.p [] .z (.p [] .z (.p [] .z (.p [] .z (.p [] (.p [0,2] .z (.p [] .z (.p [] .z (.p [0,2,6] .z .z)))) (.p [] .z (.p [] (.p [0,2] .z (.p [] .z (.p [0,2,7] .z .z))) .z))))))))))) .z)) = some F149 := by kernel_rfl
theorem h177 : lowO Tryz.prog tyI fnF glo0 drawn 1000000 177 2 (.p [] .z (.p [0,1] .z (.p [] .z (.u [] (.u [0,1,6] (.u [] (.p [] .z (.p [0,1,7] .z (.p [0,1,7] .z (.p [] .z (.p [0,1,9,10] .z (.p [0,1,10] .z .z)))))))))))) = some F177 := by kernel_rfl
theorem h181 : lowO Tryz.prog tyI fnF glo0 drawn 1000000 181 1 .z = some F181 := by kernel_rfl
theorem h236 : lowO Tryz.prog tyI fnF glo0 drawn 1000000 236 2 (.p [] .z (.p [] .z (.p [] .z (.p [0,1,4,7] (.u [] (.p [] .z (.p [] (.p [] .z (.p [0,1,4,7,9] (.u [] (.u [0,1,4,7,9] (.p [0,1,4,7,9] .z .z))) (.p [] .z (.p [4,7,9] .z .z)))) (.p [] .z (.p [] (.p [] .z (.p [0,1,4,7,10] .z .z)) (.p [] .z (.p [] (.p [] .z (.p [4,7,12,13] .z .z)) .z))))))) (.p [] .z (.p [1,4,7] .z .z)))))) = some F236 := by kernel_rfl
theorem h248 : lowO Tryz.prog tyI fnF glo0 drawn 1000000 248 2 (.p [] .z (.p [0,3] .z .z)) = some F248 := by kernel_rfl
theorem h255 : lowO Tryz.prog tyI fnF glo0 drawn 1000000 255 4 (.p [0,1,2,3] (.p [] .z (.u [] (.u [0,1,2,3,13,14,15] (.p [] .z (.p [0,1,2,3,13,14,15] .z (.p [0,1,2,3,13,14,15] .z .z)))))) .z) = some F255 := by kernel_rfl
theorem h297 : lowO Tryz.prog tyI fnF glo0 drawn 1000000 297 3 .z = some F297 := by kernel_rfl
theorem h305 : lowO Tryz.prog tyI fnF glo0 drawn 1000000 305 1 (.p [] .z (.p [] (.p [] .z (.u [] (.p [] .z (.p [] .z (.p [3,6] .z (.p [] .z (.p [3,15] .z (.p [] .z (.p [3,20] .z (.p [] .z (.p [] .z (.p [] .z (.p [3,26] .z (.p [] .z (.p [3,30] .z .z))))))))))))))) .z)) = some F305 := by kernel_rfl
end Go.Proofs.YtbckjaoljeimgaaGreatDoor
