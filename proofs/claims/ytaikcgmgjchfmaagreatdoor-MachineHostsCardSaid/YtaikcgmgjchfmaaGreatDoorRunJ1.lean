/- The lifted forms are those of the program: by the kernel (part 1). -/
import Derived.Test.YtaikcgmgjchfmaaGreatDoorRunC0
import Derived.KernelRfl
namespace Go.Proofs.YtaikcgmgjchfmaaGreatDoor
open Go Go.Ev
set_option maxRecDepth 1000000
set_option maxHeartbeats 40000000
theorem h10 : lowO Tryz.prog tyI fnF glo0 drawn 1000000 10 1 .z = some F10 := by kernel_rfl
theorem h12 : lowO Tryz.prog tyI fnF glo0 drawn 1000000 12 2 (.p [] .z (.p [0,1] .z (.p [0,1] .z (.p [] .z (.p [0,6] .z .z))))) = some F12 := by kernel_rfl
theorem h13 : lowO Tryz.prog tyI fnF glo0 drawn 1000000 13 3 (.p [] .z (.p [0,1,2,6] .z (.p [0,1,2,6] .z (.p [] .z (.p [] .z (.p [0,2,6,7,8] (.p [] .z (.p [] (.p [6,8] (.p [] .z (.p [] (.p [] .z (.p [0,6,8,9] .z .z)) .z)) .z) .z)) (.p [] .z (.p [] .z (.p [2,6,7,8] .z (.p [2,6,7,8] .z .z)))))))))) = some F13 := by kernel_rfl
theorem h33 : lowO Tryz.prog tyI fnF glo0 drawn 1000000 33 2 .z = some F33 := by kernel_rfl
theorem h45 : lowO Tryz.prog tyI fnF glo0 drawn 1000000 45 2 (.p [] .z (.p [] .z (.p [] .z (.p [5,6] .z .z)))) = some F45 := by kernel_rfl
theorem h58 : lowO Tryz.prog tyI fnF glo0 drawn 1000000 58 3 (.p [] .z (.p [] .z (.p [2,7] .z .z))) = some F58 := by kernel_rfl
theorem h65 : lowO Tryz.prog tyI fnF glo0 drawn 1000000 65 1 (.p [] .z (.p [] .z (.p [2,3] (.u [] (.u [0,2,3] (.p [0,2,3] .z .z))) .z))) = some F65 := by kernel_rfl
theorem h68 : lowO Tryz.prog tyI fnF glo0 drawn 1000000 68 1 .z = some F68 := by kernel_rfl
theorem h78 : lowO Tryz.prog tyI fnF glo0 drawn 1000000 78 2 .z = some F78 := by kernel_rfl
theorem h92 : lowO Tryz.prog tyI fnF glo0 drawn 1000000 92 1 .z = some F92 := by kernel_rfl
theorem h101 : lowO Tryz.prog tyI fnF glo0 drawn 1000000 101 2 .z = some F101 := by kernel_rfl
theorem h138 : lowO Tryz.prog tyI fnF glo0 drawn 1000000 138 1 .z = some F138 := by kernel_rfl
theorem h153 : lowO Tryz.prog tyI fnF glo0 drawn 1000000 153 2 .z = some F153 := by kernel_rfl
theorem h170 : lowO Tryz.prog tyI fnF glo0 drawn 1000000 170 1 (.p [] .z (.p [] .z (.p [0,3] .z (.p [0,3] .z (.p [0,3] .z (.p [] .z (.p [0,3] (.u [] (.u [0,3] (.p [0,3] .z (.u [] (.p [] .z (.p [0,3] .z .z)))))) .z))))))) = some F170 := by kernel_rfl
theorem h175 : lowO Tryz.prog tyI fnF glo0 drawn 1000000 175 2 (.p [] .z (.p [] (.p [] .z (.u [] (.u [3,7,8,9] (.p [] .z (.p [3,7,8,9] .z (.p [3,7,8,9] .z .z)))))) .z)) = some F175 := by kernel_rfl
theorem h187 : lowO Tryz.prog tyI fnF glo0 drawn 1000000 187 2 (.p [] .z (.u [] (.u [0,1,6,7] (.p [] .z (.p [0,1,6,7] .z (.p [0,1,6,7] .z .z)))))) = some F187 := by kernel_rfl
theorem h191 : lowO Tryz.prog tyI fnF glo0 drawn 1000000 191 2 (.p [] .z (.p [] .z (.p [] .z (.p [0,4] (.p [] .z (.u [] (.u [0,1,4,32,33] (.p [] .z (.p [0,1,4,32,33] .z (.p [0,1,4,32,33] .z .z)))))) .z)))) = some F191 := by kernel_rfl
theorem h202 : lowO Tryz.prog tyI fnF glo0 drawn 1000000 202 3 (.p [] .z (.p [] .z (.p [2,3,4,7] .z (.p [4] .z .z)))) = some F202 := by kernel_rfl
theorem h211 : lowO Tryz.prog tyI fnF glo0 drawn 1000000 211 2 (.p [] .z (.p [] .z (.p [0,1,4,5] .z (.p [] .z (.u [] (.u [0,1,4,5,6] (.u [] (.p [] .z (.p [0,1,4,5,6,7] .z (.p [] .z (.p [0,1,4,5,6,8] .z (.p [] .z (.p [] .z (.p [0,1,4,5,6,8,9] .z .z)))))))))))))) = some F211 := by kernel_rfl
theorem h214 : lowO Tryz.prog tyI fnF glo0 drawn 1000000 214 2 (.p [] .z (.p [] (.p [] .z (.u [] (.u [1,10,11,12] (.p [] .z (.p [1,10,11,12] .z (.p [1,10,11,12] .z .z)))))) .z)) = some F214 := by kernel_rfl
theorem h215 : lowO Tryz.prog tyI fnF glo0 drawn 1000000 215 4 (.p [] .z (.p [0,1] (.p [] .z (.u [] (.u [0,1,3,9] (.p [0,1,3,9] .z (.p [0,1,3,9] (.u [] (.p [] .z (.p [0,1,3,9,10] .z (.p [0,1,10] .z .z)))) .z))))) .z)) = some F215 := by kernel_rfl
theorem h216 : lowO Tryz.prog tyI fnF glo0 drawn 1000000 216 4 (.p [] .z (.u [] (.u [0,1,2,3,10,11] (.p [] .z (.p [0,1,2,3,10,11] .z (.p [0,1,2,3,10,11] .z .z)))))) = some F216 := by kernel_rfl
theorem h238 : lowO Tryz.prog tyI fnF glo0 drawn 1000000 238 2 .z = some F238 := by kernel_rfl
theorem h240 : lowO Tryz.prog tyI fnF glo0 drawn 1000000 240 1 .z = some F240 := by kernel_rfl
theorem h243 : lowO Tryz.prog tyI fnF glo0 drawn 1000000 243 2 (.p [] .z (.p [] .z (.p [0,1,6] (.u [] (.u [0,1,6] (.p [0,1,6] .z .z))) (.p [0,1,6] .z (.p [6] .z .z))))) = some F243 := by kernel_rfl
theorem h248 : lowO Tryz.prog tyI fnF glo0 drawn 1000000 248 0 .z = some F248 := by kernel_rfl
theorem h255 : lowO Tryz.prog tyI fnF glo0 drawn 1000000 255 2 .z = some F255 := by kernel_rfl
theorem h286 : lowO Tryz.prog tyI fnF glo0 drawn 1000000 286 1 (.p [] .z (.p [] .z (.p [] .z (.p [0,2,3,4] .z (.p [] .z (.p [0,2,3,5] .z (.p [0,2,3,5] .z .z))))))) = some F286 := by kernel_rfl
end Go.Proofs.YtaikcgmgjchfmaaGreatDoor
