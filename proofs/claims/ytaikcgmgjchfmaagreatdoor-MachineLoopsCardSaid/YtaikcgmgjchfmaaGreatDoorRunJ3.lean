/- The lifted forms are those of the program: by the kernel (part 3). -/
import Derived.Test.YtaikcgmgjchfmaaGreatDoorRunC0
import Derived.KernelRfl
namespace Go.Proofs.YtaikcgmgjchfmaaGreatDoor
open Go Go.Ev
set_option maxRecDepth 1000000
set_option maxHeartbeats 40000000
theorem h7 : lowO Tryz.prog tyI fnF glo0 drawn 1000000 7 1 (.p [] .z (.p [0] .z (.p [0] .z (.p [] .z (.p [3] (.p [] .z (.u [] (.u [0,3] (.p [0,3] .z (.p [0,3] .z .z))))) .z))))) = some F7 := by kernel_rfl
theorem h22 : lowO Tryz.prog tyI fnF glo0 drawn 1000000 22 1 .z = some F22 := by kernel_rfl
theorem h58 : lowO Tryz.prog tyI fnF glo0 drawn 1000000 58 3 (.p [] .z (.p [] .z (.p [2,7] .z .z))) = some F58 := by kernel_rfl
theorem h78 : lowO Tryz.prog tyI fnF glo0 drawn 1000000 78 2 .z = some F78 := by kernel_rfl
theorem h101 : lowO Tryz.prog tyI fnF glo0 drawn 1000000 101 2 .z = some F101 := by kernel_rfl
theorem h103 : lowO Tryz.prog tyI fnF glo0 drawn 1000000 103 2 (.p [] .z (.p [3,4] .z .z)) = some F103 := by kernel_rfl
theorem h136 : lowO Tryz.prog tyI fnF glo0 drawn 1000000 136 3 (.p [] .z (.u [] (.u [0,1,10,11,12] (.p [] .z (.p [0,1,10,11,12] .z (.p [0,1,10,11,12] (.u [] (.p [] .z (.p [] .z (.u [] (.u [0,1,7,10,11,12,18,19,20] (.p [] .z (.p [0,1,7,10,11,12,18,19,20] .z (.p [0,1,7,10,11,12,18,19,20] .z .z)))))))) .z)))))) = some F136 := by kernel_rfl
theorem h147 : lowO Tryz.prog tyI fnF glo0 drawn 1000000 147 2 (.p [] .z (.p [] (.p [] .z (.u [] (.u [0,1,7,8] (.p [] .z (.p [0,1,7,8] .z (.p [0,1,7,8] .z .z)))))) .z)) = some F147 := by kernel_rfl
theorem h153 : lowO Tryz.prog tyI fnF glo0 drawn 1000000 153 2 .z = some F153 := by kernel_rfl
theorem h179 : lowO Tryz.prog tyI fnF glo0 drawn 1000000 179 4 (.p [] .z (.u [] (.p [] .z (.p [] .z (.p [0,1,2,3,17,33] .z (.p [] (.p [0,1,2,3] (.p [] .z (.p [] .z (.p [] (.p [0,1,2,3] .z .z) .z))) .z) (.p [] .z (.p [] .z (.p [] .z (.p [] .z (.p [] .z (.p [] .z (.p [] .z (.p [] (.p [] .z (.p [] .z (.p [0,1,3,13] .z .z))) .z)))))))))))))) = some F179 := by kernel_rfl
theorem h184 : lowO Tryz.prog tyI fnF glo0 drawn 1000000 184 2 .z = some F184 := by kernel_rfl
theorem h201 : lowO Tryz.prog tyI fnF glo0 drawn 1000000 201 3 .z = some F201 := by kernel_rfl
theorem h207 : lowO Tryz.prog tyI fnF glo0 drawn 1000000 207 3 (.p [] .z (.u [] (.u [0,1,2,5] (.p [] .z (.p [0,1,2,5] .z (.p [0,1,2,5] (.u [] (.p [] .z (.p [0,1,2,4,5] .z .z))) .z)))))) = some F207 := by kernel_rfl
theorem h208 : lowO Tryz.prog tyI fnF glo0 drawn 1000000 208 2 (.p [] .z (.p [1] (.u [] (.u [0,1] (.p [0,1] .z (.u [] (.u [] (.p [] .z (.p [] .z (.p [] .z (.p [] (.p [] .z (.p [0,1,6] .z .z)) (.p [] .z (.p [] (.p [] .z (.p [0,1,7] .z .z)) .z))))))))))) .z)) = some F208 := by kernel_rfl
theorem h209 : lowO Tryz.prog tyI fnF glo0 drawn 1000000 209 2 (.p [] .z (.p [] .z (.p [] .z (.p [0,1,4,7] (.u [] (.p [] .z (.p [] (.p [] .z (.p [0,1,4,7,9] (.u [] (.u [0,1,4,7,9] (.p [0,1,4,7,9] .z .z))) (.p [] .z (.p [4,7,9] .z .z)))) (.p [] .z (.p [] (.p [] .z (.p [0,1,4,7,10] .z .z)) (.p [] .z (.p [] (.p [] .z (.p [4,7,12,13] .z .z)) .z))))))) (.p [] .z (.p [1,4,7] .z .z)))))) = some F209 := by kernel_rfl
theorem h212 : lowO Tryz.prog tyI fnF glo0 drawn 1000000 212 1 (.p [] .z (.p [0] .z .z)) = some F212 := by kernel_rfl
theorem h214 : lowO Tryz.prog tyI fnF glo0 drawn 1000000 214 2 (.p [] .z (.p [] (.p [] .z (.u [] (.u [1,10,11,12] (.p [] .z (.p [1,10,11,12] .z (.p [1,10,11,12] .z .z)))))) .z)) = some F214 := by kernel_rfl
theorem h246 : lowO Tryz.prog tyI fnF glo0 drawn 1000000 246 0 .z = some F246 := by kernel_rfl
theorem h248 : lowO Tryz.prog tyI fnF glo0 drawn 1000000 248 0 .z = some F248 := by kernel_rfl
theorem h255 : lowO Tryz.prog tyI fnF glo0 drawn 1000000 255 2 .z = some F255 := by kernel_rfl
theorem h256 : lowO Tryz.prog tyI fnF glo0 drawn 1000000 256 2 (.p [] .z (.p [] (.p [] .z (.u [] (.u [3,7,8,9] (.p [] .z (.p [3,7,8,9] .z (.p [3,7,8,9] .z .z)))))) .z)) = some F256 := by kernel_rfl
theorem h261 : lowO Tryz.prog tyI fnF glo0 drawn 1000000 261 2 (.p [] .z (.p [] (.p [] .z (.u [] (.u [0,3,7,8] (.p [] .z (.p [0,3,7,8] .z (.p [0,3,7,8] .z .z)))))) .z)) = some F261 := by kernel_rfl
theorem h270 : lowO Tryz.prog tyI fnF glo0 drawn 1000000 270 1 (.p [] .z (.p [] (.p [] .z (.u [] (.p [] .z (.p [] .z (.p [3,6] .z (.p [] .z (.p [3,15] .z (.p [] .z (.p [3,20] .z (.p [] .z (.p [] .z (.p [] .z (.p [3,26] .z (.p [] .z (.p [3,30] .z .z))))))))))))))) .z)) = some F270 := by kernel_rfl
theorem h271 : lowO Tryz.prog tyI fnF glo0 drawn 1000000 271 1 (.p [] .z (.p [] (.p [] .z (.u [] (.p [4,5] .z (.p [] .z (.p [4,20] .z (.p [] .z (.p [] .z (.p [] .z (.p [] .z (.p [] .z (.p [] .z (.p [] .z (.p [] .z (.p [] .z (.p [4,43] .z (.p [] .z (.p [4,51] .z (.p [] .z (.p [59] .z .z))))))))))))))))))) .z)) = some F271 := by kernel_rfl
theorem h289 : lowO Tryz.prog tyI fnF glo0 drawn 1000000 289 2 .z = some F289 := by kernel_rfl
end Go.Proofs.YtaikcgmgjchfmaaGreatDoor
