/- The lifted forms are those of the program: by the kernel (part 0). -/
import Derived.Test.YtapognhadfncmaaGreatDoorRunC0
import Derived.KernelRfl
namespace Go.Proofs.YtapognhadfncmaaGreatDoor
open Go Go.Ev
set_option maxRecDepth 1000000
set_option maxHeartbeats 40000000
theorem h13 : lowO Tryz.prog tyI fnF glo0 drawn 1000000 13 1 .z = some F13 := by kernel_rfl
theorem h28 : lowO Tryz.prog tyI fnF glo0 drawn 1000000 28 2 (.p [] .z (.p [] .z (.p [0,5] .z .z))) = some F28 := by kernel_rfl
theorem h41 : lowO Tryz.prog tyI fnF glo0 drawn 1000000 41 2 (.p [] .z (.p [0,3] .z (.p [] .z (.p [5] .z .z)))) = some F41 := by kernel_rfl
theorem h51 : lowO Tryz.prog tyI fnF glo0 drawn 1000000 51 2 (.p [] .z (.p [] (.p [] .z (.u [] (.u [0,1,7,8] (.p [] .z (.p [0,1,7,8] .z (.p [0,1,7,8] .z .z)))))) .z)) = some F51 := by kernel_rfl
theorem h76 : lowO Tryz.prog tyI fnF glo0 drawn 1000000 76 1 .z = some F76 := by kernel_rfl
theorem h98 : lowO Tryz.prog tyI fnF glo0 drawn 1000000 98 1 (.p [] .z (.p [2] (.p [] .z (.u [] (.p [] .z (.p [] .z (.p [] .z (.p [] .z (.p [] .z (.p [] .z (.p [] .z (.p [] .z (.p [1,2,26] .z .z))))))))))) .z)) = some F98 := by kernel_rfl
theorem h107 : lowO Tryz.prog tyI fnF glo0 drawn 1000000 107 1 .z = some F107 := by kernel_rfl
theorem h157 : lowO Tryz.prog tyI fnF glo0 drawn 1000000 157 3 (.p [] .z (.p [] .z (.p [0,2,7] .z (.p [0,7] .z .z)))) = some F157 := by kernel_rfl
theorem h164 : lowO Tryz.prog tyI fnF glo0 drawn 1000000 164 2 (.p [] .z (.p [] .z (.p [1,5] .z .z))) = some F164 := by kernel_rfl
theorem h177 : lowO Tryz.prog tyI fnF glo0 drawn 1000000 177 2 .z = some F177 := by kernel_rfl
theorem h199 : lowO Tryz.prog tyI fnF glo0 drawn 1000000 199 2 .z = some F199 := by kernel_rfl
theorem h216 : lowO Tryz.prog tyI fnF glo0 drawn 1000000 216 1 .z = some F216 := by kernel_rfl
theorem h235 : lowO Tryz.prog tyI fnF glo0 drawn 1000000 235 2 (.p [] .z (.p [1] (.u [] (.u [0,1] (.p [0,1] .z (.u [] (.u [] (.p [] .z (.p [] .z (.p [] .z (.p [] (.p [] .z (.p [0,1,6] .z .z)) (.p [] .z (.p [] (.p [] .z (.p [0,1,7] .z .z)) .z))))))))))) .z)) = some F235 := by kernel_rfl
theorem h239 : lowO Tryz.prog tyI fnF glo0 drawn 1000000 239 1 (.p [] .z (.p [0] .z .z)) = some F239 := by kernel_rfl
theorem h248 : lowO Tryz.prog tyI fnF glo0 drawn 1000000 248 2 (.p [] .z (.p [0,3] .z .z)) = some F248 := by kernel_rfl
theorem h276 : lowO Tryz.prog tyI fnF glo0 drawn 1000000 276 1 .z = some F276 := by kernel_rfl
theorem h283 : lowO Tryz.prog tyI fnF glo0 drawn 1000000 283 0 .z = some F283 := by kernel_rfl
theorem h285 : lowO Tryz.prog tyI fnF glo0 drawn 1000000 285 2 (.p [] .z (.p [] .z (.p [] (.p [] .z (.u [] (.p [2,3,5,9,10] .z (.p [] .z (.p [] .z (.p [] .z (.p [] .z (.p [] .z (.p [] .z (.p [] .z (.p [] .z (.p [] .z (.p [] .z (.p [] .z (.p [] .z (.p [] .z (.p [] .z (.p [] .z (.p [] .z (.p [] .z (.p [] .z (.p [] .z (.p [] .z (.p [] .z (.p [] .z (.p [] .z (.p [] .z (.p [] .z (.p [] .z (.p [] .z (.p [] .z (.p [] .z (.p [3,5,9,245] .z .z))))))))))))))))))))))))))))))))) .z))) = some F285 := by kernel_rfl
theorem h296 : lowO Tryz.prog tyI fnF glo0 drawn 1000000 296 2 (.p [] .z (.p [] (.p [] .z (.u [] (.u [0,3,7,8] (.p [] .z (.p [0,3,7,8] .z (.p [0,3,7,8] .z .z)))))) .z)) = some F296 := by kernel_rfl
theorem h305 : lowO Tryz.prog tyI fnF glo0 drawn 1000000 305 1 (.p [] .z (.p [] (.p [] .z (.u [] (.p [] .z (.p [] .z (.p [3,6] .z (.p [] .z (.p [3,15] .z (.p [] .z (.p [3,20] .z (.p [] .z (.p [] .z (.p [] .z (.p [3,26] .z (.p [] .z (.p [3,30] .z .z))))))))))))))) .z)) = some F305 := by kernel_rfl
theorem h306 : lowO Tryz.prog tyI fnF glo0 drawn 1000000 306 1 (.p [] .z (.p [] (.p [] .z (.u [] (.p [4,5] .z (.p [] .z (.p [4,20] .z (.p [] .z (.p [] .z (.p [] .z (.p [] .z (.p [] .z (.p [] .z (.p [] .z (.p [] .z (.p [] .z (.p [4,43] .z (.p [] .z (.p [4,51] .z (.p [] .z (.p [59] .z .z))))))))))))))))))) .z)) = some F306 := by kernel_rfl
theorem h328 : lowO Tryz.prog tyI fnF glo0 drawn 1000000 328 1 (.p [] .z (.p [] .z (.p [0,2,3] (.p [] .z (.p [] (.p [] .z (.p [0,2,3] (.p [] .z (.u [] (.u [0,2,3,4] (.p [0,2,3] .z .z)))) .z)) .z)) (.u [] (.u [0,2,3] (.u [] (.p [] .z (.p [0,2,3] .z (.p [0,2,3] .z .z))))))))) = some F328 := by kernel_rfl
theorem h332 : lowO Tryz.prog tyI fnF glo0 drawn 1000000 332 1 (.p [] .z (.p [] .z (.p [0,2] .z (.p [] .z (.p [0,2] (.p [] .z (.u [] (.u [0,2,6,56,57,58] (.p [] .z (.p [0,2,6,56,57,58] .z (.p [0,2,6,56,57,58] .z .z)))))) (.p [0,2] .z .z)))))) = some F332 := by kernel_rfl
end Go.Proofs.YtapognhadfncmaaGreatDoor
