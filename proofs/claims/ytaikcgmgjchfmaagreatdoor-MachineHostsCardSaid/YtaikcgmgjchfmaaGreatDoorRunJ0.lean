/- The lifted forms are those of the program: by the kernel (part 0). -/
import Derived.Test.YtaikcgmgjchfmaaGreatDoorRunC0
import Derived.KernelRfl
namespace Go.Proofs.YtaikcgmgjchfmaaGreatDoor
open Go Go.Ev
set_option maxRecDepth 1000000
set_option maxHeartbeats 40000000
theorem h11 : lowO Tryz.prog tyI fnF glo0 drawn 1000000 11 1 .z = some F11 := by kernel_rfl
theorem h17 : lowO Tryz.prog tyI fnF glo0 drawn 1000000 17 3 (.p [] .z (.p [] .z (.p [] .z (.p [0,1,2,7,9] .z .z)))) = some F17 := by kernel_rfl
theorem h20 : lowO Tryz.prog tyI fnF glo0 drawn 1000000 20 2 (.p [] .z (.p [] .z (.p [0,5] .z .z))) = some F20 := by kernel_rfl
theorem h22 : lowO Tryz.prog tyI fnF glo0 drawn 1000000 22 1 .z = some F22 := by kernel_rfl
theorem h49 : lowO Tryz.prog tyI fnF glo0 drawn 1000000 49 1 .z = some F49 := by kernel_rfl
theorem h72 : lowO Tryz.prog tyI fnF glo0 drawn 1000000 72 1 .z = some F72 := by kernel_rfl
theorem h74 : lowO Tryz.prog tyI fnF glo0 drawn 1000000 74 2 .z = some F74 := by kernel_rfl
theorem h75 : lowO Tryz.prog tyI fnF glo0 drawn 1000000 75 1 (.p [] .z (.p [2] (.p [] .z (.u [] (.p [] .z (.p [] .z (.p [] .z (.p [] .z (.p [] .z (.p [] .z (.p [] .z (.p [] .z (.p [1,2,26] .z .z))))))))))) .z)) = some F75 := by kernel_rfl
theorem h80 : lowO Tryz.prog tyI fnF glo0 drawn 1000000 80 2 (.p [] .z (.p [0,3] .z .z)) = some F80 := by kernel_rfl
theorem h103 : lowO Tryz.prog tyI fnF glo0 drawn 1000000 103 2 (.p [] .z (.p [3,4] .z .z)) = some F103 := by kernel_rfl
theorem h119 : lowO Tryz.prog tyI fnF glo0 drawn 1000000 119 1 (.p [] .z (.p [] .z (.p [] .z (.p [5] .z .z)))) = some F119 := by kernel_rfl
theorem h128 : lowO Tryz.prog tyI fnF glo0 drawn 1000000 128 1 .z = some F128 := by kernel_rfl
theorem h133 : lowO Tryz.prog tyI fnF glo0 drawn 1000000 133 1 (.p [] .z (.p [0,2] .z (.p [0,2] (.p [] .z (.p [] (.p [0,2] .z .z) .z)) (.p [] .z (.p [] .z (.p [0,2,3,4] .z (.p [] .z (.p [0,2,3,5] .z (.p [0,2,3,5] .z .z))))))))) = some F133 := by kernel_rfl
theorem h141 : lowO Tryz.prog tyI fnF glo0 drawn 1000000 141 2 (.p [] .z (.u [] (.p [] .z (.p [] .z (.p [] .z (.p [] .z (.p [] .z (.p [] .z (.p [] .z (.p [] .z (.p [] .z (.p [] .z (.p [] .z (.p [] .z (.p [] .z (.p [] .z (.p [] .z (.p [] .z (.p [] .z (.p [] (.p [] .z (.p [] .z (.u [] (.u [0,1,67,68] (.p [] .z (.p [0,1,67,68] .z (.p [0,1,67,68] .z .z))))))) .z)))))))))))))))))))) = some F141 := by kernel_rfl
theorem h143 : lowO Tryz.prog tyI fnF glo0 drawn 1000000 143 2 (.p [] .z (.p [1,2] .z (.p [1,2] .z (.p [1,2] (.p [] .z (.u [] (.u [1,2,58,59,60] (.p [] .z (.p [1,2,58,59,60] .z (.p [1,2,58,59,60] .z .z)))))) (.p [2] (.p [] .z (.u [] (.u [1,2,86,87,88] (.p [] .z (.p [1,2,86,87,88] .z (.p [1,2,86,87,88] .z .z)))))) (.p [] (.p [] .z (.u [] (.u [2,99,100,101] (.p [] .z (.p [2,99,100,101] .z (.p [2,99,100,101] .z .z)))))) .z)))))) = some F143 := by kernel_rfl
theorem h162 : lowO Tryz.prog tyI fnF glo0 drawn 1000000 162 1 (.p [] .z (.p [] .z (.p [0,3] .z .z))) = some F162 := by kernel_rfl
theorem h178 : lowO Tryz.prog tyI fnF glo0 drawn 1000000 178 5 (.p [] .z (.p [] .z (.p [] .z (.p [0,1,10] .z (.p [] .z (.p [] .z (.p [] .z (.p [0,1,11,12] (.p [] .z (.u [] (.u [0,1,11,12,69,70,71] (.p [] .z (.p [0,1,11,12,69,70,71] .z (.p [0,1,11,12,69,70,71] .z .z)))))) .z)))))))) = some F178 := by kernel_rfl
theorem h183 : lowO Tryz.prog tyI fnF glo0 drawn 1000000 183 2 .z = some F183 := by kernel_rfl
theorem h184 : lowO Tryz.prog tyI fnF glo0 drawn 1000000 184 2 .z = some F184 := by kernel_rfl
theorem h201 : lowO Tryz.prog tyI fnF glo0 drawn 1000000 201 3 .z = some F201 := by kernel_rfl
theorem h232 : lowO Tryz.prog tyI fnF glo0 drawn 1000000 232 1 (.p [] .z (.p [0,2] .z (.p [] .z (.p [] .z (.p [2,4] .z .z))))) = some F232 := by kernel_rfl
theorem h256 : lowO Tryz.prog tyI fnF glo0 drawn 1000000 256 2 (.p [] .z (.p [] (.p [] .z (.u [] (.u [3,7,8,9] (.p [] .z (.p [3,7,8,9] .z (.p [3,7,8,9] .z .z)))))) .z)) = some F256 := by kernel_rfl
theorem h269 : lowO Tryz.prog tyI fnF glo0 drawn 1000000 269 0 .z = some F269 := by kernel_rfl
theorem h270 : lowO Tryz.prog tyI fnF glo0 drawn 1000000 270 1 (.p [] .z (.p [] (.p [] .z (.u [] (.p [] .z (.p [] .z (.p [3,6] .z (.p [] .z (.p [3,15] .z (.p [] .z (.p [3,20] .z (.p [] .z (.p [] .z (.p [] .z (.p [3,26] .z (.p [] .z (.p [3,30] .z .z))))))))))))))) .z)) = some F270 := by kernel_rfl
theorem h281 : lowO Tryz.prog tyI fnF glo0 drawn 1000000 281 2 .z = some F281 := by kernel_rfl
theorem h282 : lowO Tryz.prog tyI fnF glo0 drawn 1000000 282 2 .z = some F282 := by kernel_rfl
theorem h308 : lowO Tryz.prog tyI fnF glo0 drawn 1000000 308 1 (.p [] .z (.p [] .z (.p [0,2,3] (.p [] .z (.p [] (.p [] .z (.p [0,2,3] (.p [] .z (.u [] (.u [0,2,3,4] (.p [0,2,3] .z .z)))) .z)) .z)) (.u [] (.u [0,2,3] (.u [] (.p [] .z (.p [0,2,3] .z (.p [0,2,3] .z .z))))))))) = some F308 := by kernel_rfl
theorem h309 : lowO Tryz.prog tyI fnF glo0 drawn 1000000 309 2 (.p [] .z (.p [] (.p [] .z (.u [] (.u [0,1,7,8] (.p [] .z (.p [0,1,7,8] .z (.p [0,1,7,8] .z .z)))))) .z)) = some F309 := by kernel_rfl
end Go.Proofs.YtaikcgmgjchfmaaGreatDoor
