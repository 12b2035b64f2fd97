/- The lifted forms are those of the program: by the kernel (part 0). -/
import Derived.Test.YtaikcgmgjchfmaaGreatDoorRunC0
import Derived.KernelRfl
namespace Go.Proofs.YtaikcgmgjchfmaaGreatDoor
open Go Go.Ev
set_option maxRecDepth 1000000
set_option maxHeartbeats 40000000
theorem h10 : lowO Tryz.prog tyI fnF glo0 drawn 1000000 10 1 .z = some F10 := by kernel_rfl
theorem h11 : lowO Tryz.prog tyI fnF glo0 drawn 1000000 11 1 .z = some F11 := by kernel_rfl
theorem h13 : lowO Tryz.prog tyI fnF glo0 drawn 1000000 13 3 (.p [] .z (.p [0,1,2,6] .z (.p [0,1,2,6] .z (.p [] .z (.p [] .z (.p [0,2,6,7,8] (.p [] .z (.p [] (.p [6,8] (.p [] .z (.p [] (.p [] .z (.p [0,6,8,9] .z .z)) .z)) .z) .z)) (.p [] .z (.p [] .z (.p [2,6,7,8] .z (.p [2,6,7,8] .z .z)))))))))) = some F13 := by kernel_rfl
theorem h17 : lowO Tryz.prog tyI fnF glo0 drawn 1000000 17 3 (.p [] .z (.p [] .z (.p [] .z (.p [0,1,2,7,9] .z .z)))) = some F17 := by kernel_rfl
theorem h33 : lowO Tryz.prog tyI fnF glo0 drawn 1000000 33 2 .z = some F33 := by kernel_rfl
theorem h35 : lowO Tryz.prog tyI fnF glo0 drawn 1000000 35 1 .z = some F35 := by kernel_rfl
theorem h41 : lowO Tryz.prog tyI fnF glo0 drawn 1000000 41 2 (.p [] .z (.p [1,2] .z .z)) = some F41 := by kernel_rfl
theorem h72 : lowO Tryz.prog tyI fnF glo0 drawn 1000000 72 1 .z = some F72 := by kernel_rfl
theorem h90 : lowO Tryz.prog tyI fnF glo0 drawn 1000000 90 2 (.p [] .z (.p [2,3] .z .z)) = some F90 := by kernel_rfl
theorem h123 : lowO Tryz.prog tyI fnF glo0 drawn 1000000 123 2 (.p [] .z (.p [1,2] .z (.p [] (.p [] .z (.u [] (.u [1,10,11,12] (.p [] .z (.p [1,10,11,12] .z (.p [1,10,11,12] .z .z)))))) .z))) = some F123 := by kernel_rfl
theorem h131 : lowO Tryz.prog tyI fnF glo0 drawn 1000000 131 2 (.p [] .z (.p [0] .z .z)) = some F131 := by kernel_rfl
theorem h140 : lowO Tryz.prog tyI fnF glo0 drawn 1000000 140 3 (.p [] .z (.u [] (.u [0,1,2,9,10] (.p [] .z (.p [0,1,2,9,10] .z (.p [0,1,2,9,10] .z .z)))))) = some F140 := by kernel_rfl
theorem h173 : lowO Tryz.prog tyI fnF glo0 drawn 1000000 173 3 (.p [] .z (.p [] (.p [] .z (.u [] (.u [0,2,7] (.p [0,2,7] .z (.p [0,2,7] .z .z))))) .z)) = some F173 := by kernel_rfl
theorem h175 : lowO Tryz.prog tyI fnF glo0 drawn 1000000 175 2 (.p [] .z (.p [] (.p [] .z (.u [] (.u [3,7,8,9] (.p [] .z (.p [3,7,8,9] .z (.p [3,7,8,9] .z .z)))))) .z)) = some F175 := by kernel_rfl
theorem h176 : lowO Tryz.prog tyI fnF glo0 drawn 1000000 176 1 (.p [] .z (.p [] .z (.p [3] (.p [] .z (.u [] (.u [3,8,9,10] (.p [] .z (.p [3,8,9,10] .z (.p [3,8,9,10] (.u [] (.p [] .z (.p [] .z (.u [] (.p [3,5,8,9,10,15,16] .z (.p [] (.p [] .z (.u [] (.u [3,8,9,10,20,21,22] (.p [] .z (.p [3,8,9,10,20,21,22] .z (.p [3,8,9,10,20,21,22] .z .z)))))) .z)))))) .z)))))) .z))) = some F176 := by kernel_rfl
theorem h187 : lowO Tryz.prog tyI fnF glo0 drawn 1000000 187 2 (.p [] .z (.u [] (.u [0,1,6,7] (.p [] .z (.p [0,1,6,7] .z (.p [0,1,6,7] .z .z)))))) = some F187 := by kernel_rfl
theorem h200 : lowO Tryz.prog tyI fnF glo0 drawn 1000000 200 1 .z = some F200 := by kernel_rfl
theorem h203 : lowO Tryz.prog tyI fnF glo0 drawn 1000000 203 2 (.p [] .z (.p [] .z (.p [1,5] .z .z))) = some F203 := by kernel_rfl
theorem h233 : lowO Tryz.prog tyI fnF glo0 drawn 1000000 233 3 (.p [] .z (.p [0,1,2] .z (.p [] .z (.p [0,1,2,8] .z (.p [] .z (.p [] .z (.p [2,8,9] .z (.p [2,8,9] .z (.p [] .z (.p [8,9,10] .z (.p [8,9] .z (.p [] .z (.p [11] .z .z))))))))))))) = some F233 := by kernel_rfl
theorem h240 : lowO Tryz.prog tyI fnF glo0 drawn 1000000 240 1 .z = some F240 := by kernel_rfl
theorem h241 : lowO Tryz.prog tyI fnF glo0 drawn 1000000 241 1 .z = some F241 := by kernel_rfl
theorem h242 : lowO Tryz.prog tyI fnF glo0 drawn 1000000 242 1 (.p [] .z (.p [] (.p [] .z (.u [] (.p [4] .z .z))) .z)) = some F242 := by kernel_rfl
theorem h243 : lowO Tryz.prog tyI fnF glo0 drawn 1000000 243 2 (.p [] .z (.p [] .z (.p [0,1,6] (.u [] (.u [0,1,6] (.p [0,1,6] .z .z))) (.p [0,1,6] .z (.p [6] .z .z))))) = some F243 := by kernel_rfl
theorem h245 : lowO Tryz.prog tyI fnF glo0 drawn 1000000 245 1 (.p [] .z (.p [0] (.u [] (.p [0,3] .z .z)) (.p [0] (.p [] .z (.p [] (.p [] .z (.u [] (.p [0,15] .z .z))) .z)) .z))) = some F245 := by kernel_rfl
theorem h259 : lowO Tryz.prog tyI fnF glo0 drawn 1000000 259 2 .z = some F259 := by kernel_rfl
end Go.Proofs.YtaikcgmgjchfmaaGreatDoor
