/- The lifted forms are those of the program: by the kernel (part 3). -/
import Derived.Test.YtbckjaoljeimgaaGreatDoorRunC0
import Derived.KernelRfl
namespace Go.Proofs.YtbckjaoljeimgaaGreatDoor
open Go Go.Ev
set_option maxRecDepth 1000000
set_option maxHeartbeats 40000000
theorem h7 : lowO Tryz.prog tyI fnF glo0 drawn 1000000 7 1 .z = some F7 := by kernel_rfl
theorem h16 : lowO Tryz.prog tyI fnF glo0 drawn 1000000 16 3 (.p [] .z (.p [] .z (.p [2,6,8] .z (.p [2,6,8] (.p [] .z (.p [] (.p [2,6,8] .z (.p [] .z (.p [] .z (.p [] (.p [6] .z .z) .z)))) .z)) (.p [6] .z .z))))) = some F16 := by kernel_rfl
theorem h33 : lowO Tryz.prog tyI fnF glo0 drawn 1000000 33 1 (.p [] .z (.p [] .z (.p [] .z (.p [] .z (.p [2,3,4] (.p [] .z (.u [] (.u [2,3,4,18,19,20] (.p [] .z (.p [2,3,4,18,19,20] .z (.p [2,3,4,18,19,20] .z .z)))))) .z))))) = some F33 := by kernel_rfl
theorem h36 : lowO Tryz.prog tyI fnF glo0 drawn 1000000 36 2 .z = some F36 := by kernel_rfl
theorem h37 : lowO Tryz.prog tyI fnF glo0 drawn 1000000 37 1 (.p [] .z (.p [] .z (.p [3] .z .z))) = some F37 := by kernel_rfl
theorem h72 : lowO Tryz.prog tyI fnF glo0 drawn 1000000 72 1 .z = some F72 := by kernel_rfl
theorem h82 : lowO Tryz.prog tyI fnF glo0 drawn 1000000 82 1 (.p [] .z (.p [2] (.p [] .z (.u [] (.p [] .z (.p [] .z (.p [] .z (.p [] .z (.p [] .z (.p [] .z (.p [] .z (.p [] .z (.p [1,2,26] .z .z))))))))))) .z)) = some F82 := by kernel_rfl
theorem h85 : lowO Tryz.prog tyI fnF glo0 drawn 1000000 85 4 (.p [] .z (.p [] .z (.p [2,7,9] .z (.p [] .z (.p [2,7,9] (.p [] .z (.p [] (.p [2,7,9] (.p [] .z (.p [] (.p [7,9] .z .z) .z)) (.p [] .z (.p [] .z (.p [] (.p [7,9,10] .z .z) .z)))) .z)) (.p [2,7,9] .z (.p [2,7,9] .z .z))))))) = some F85 := by kernel_rfl
theorem h137 : lowO Tryz.prog tyI fnF glo0 drawn 1000000 137 1 (.p [] .z (.p [] .z (.p [] (.p [] .z (.u [] (.u [3,6,7,8] (.p [] .z (.p [3,6,7,8] .z (.p [3,6,7,8] (.u [] (.p [] .z (.p [3,5,6,7,8] .z (.p [] .z (.u [] (.p [3,6,7,8,16,17] .z (.p [] .z (.p [3,6,7,8,25] .z .z)))))))) .z)))))) .z))) = some F137 := by kernel_rfl
theorem h142 : lowO Tryz.prog tyI fnF glo0 drawn 1000000 142 3 .z = some F142 := by kernel_rfl
theorem h148 : lowO Tryz.prog tyI fnF glo0 drawn 1000000 148 2 (.p [] .z (.p [0] .z .z)) = some F148 := by kernel_rfl
theorem h219 : lowO Tryz.prog tyI fnF glo0 drawn 1000000 219 3 (.p [] .z (.p [] .z (.p [2,3,4,7] .z (.p [4] .z .z)))) = some F219 := by kernel_rfl
theorem h237 : lowO Tryz.prog tyI fnF glo0 drawn 1000000 237 1 (.p [] .z (.p [] .z (.p [] (.p [] .z (.u [] (.u [3,7,8,9] (.p [] .z (.p [3,7,8,9] .z (.p [3,7,8,9] (.u [] (.p [] .z (.p [3,5,7,8,9] .z .z))) .z)))))) .z))) = some F237 := by kernel_rfl
theorem h239 : lowO Tryz.prog tyI fnF glo0 drawn 1000000 239 1 (.p [] .z (.p [0] .z .z)) = some F239 := by kernel_rfl
theorem h276 : lowO Tryz.prog tyI fnF glo0 drawn 1000000 276 1 .z = some F276 := by kernel_rfl
theorem h282 : lowO Tryz.prog tyI fnF glo0 drawn 1000000 282 1 (.p [] .z (.p [] .z (.p [0,2,3] .z (.p [0,2,3] (.p [] .z (.p [] (.p [0,2] .z .z) .z)) (.p [0,2,3] (.p [] .z (.p [] .z (.p [] (.p [] .z (.p [] .z (.p [2,4,5] .z .z))) .z))) (.p [] .z (.p [0,2,6] .z (.p [] .z (.p [] .z (.p [2,6,7] .z .z)))))))))) = some F282 := by kernel_rfl
theorem h329 : lowO Tryz.prog tyI fnF glo0 drawn 1000000 329 2 (.p [] .z (.p [] (.p [] .z (.u [] (.u [0,1,7,8] (.p [] .z (.p [0,1,7,8] .z (.p [0,1,7,8] .z .z)))))) .z)) = some F329 := by kernel_rfl
end Go.Proofs.YtbckjaoljeimgaaGreatDoor
