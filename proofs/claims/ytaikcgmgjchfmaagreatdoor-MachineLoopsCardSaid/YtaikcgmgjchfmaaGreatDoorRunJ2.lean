/- The lifted forms are those of the program: by the kernel (part 2). -/
import Derived.Test.YtaikcgmgjchfmaaGreatDoorRunC0
import Derived.KernelRfl
namespace Go.Proofs.YtaikcgmgjchfmaaGreatDoor
open Go Go.Ev
set_option maxRecDepth 1000000
set_option maxHeartbeats 40000000
theorem h12 : lowO Tryz.prog tyI fnF glo0 drawn 1000000 12 2 (.p [] .z (.p [0,1] .z (.p [0,1] .z (.p [] .z (.p [0,6] .z .z))))) = some F12 := by kernel_rfl
theorem h16 : lowO Tryz.prog tyI fnF glo0 drawn 1000000 16 2 .z = some F16 := by kernel_rfl
theorem h21 : lowO Tryz.prog tyI fnF glo0 drawn 1000000 21 1 .z = some F21 := by kernel_rfl
theorem h27 : lowO Tryz.prog tyI fnF glo0 drawn 1000000 27 3 (.p [] .z (.p [1,3,5,6] (.p [] .z (.u [] (.p [] .z (.p [] .z (.p [] .z (.p [] .z (.p [] .z (.p [] .z (.p [] .z (.p [] .z (.p [] .z (.p [] .z (.p [] .z (.p [] .z (.p [] .z (.p [] .z (.p [1,3,5,6,81] .z .z))))))))))))))))) (.p [3,6] .z .z))) = some F27 := by kernel_rfl
theorem h34 : lowO Tryz.prog tyI fnF glo0 drawn 1000000 34 4 (.p [] .z (.p [] .z (.p [2,7,9] .z (.p [] .z (.p [2,7,9] (.p [] .z (.p [] (.p [2,7,9] (.p [] .z (.p [] (.p [7,9] .z .z) .z)) (.p [] .z (.p [] .z (.p [] (.p [7,9,10] .z .z) .z)))) .z)) (.p [2,7,9] .z (.p [2,7,9] .z .z))))))) = some F34 := by kernel_rfl
theorem h49 : lowO Tryz.prog tyI fnF glo0 drawn 1000000 49 1 .z = some F49 := by kernel_rfl
theorem h68 : lowO Tryz.prog tyI fnF glo0 drawn 1000000 68 1 .z = some F68 := by kernel_rfl
theorem h74 : lowO Tryz.prog tyI fnF glo0 drawn 1000000 74 2 .z = some F74 := by kernel_rfl
theorem h92 : lowO Tryz.prog tyI fnF glo0 drawn 1000000 92 1 .z = some F92 := by kernel_rfl
theorem h120 : lowO Tryz.prog tyI fnF glo0 drawn 1000000 120 1 (.p [] .z (.p [] .z (.p [] (.p [] .z (.u [] (.u [3,6,7,8] (.p [] .z (.p [3,6,7,8] .z (.p [3,6,7,8] (.u [] (.p [] .z (.p [3,5,6,7,8] .z (.p [] .z (.u [] (.p [3,6,7,8,16,17] .z (.p [] .z (.p [3,6,7,8,25] .z .z)))))))) .z)))))) .z))) = some F120 := by kernel_rfl
theorem h127 : lowO Tryz.prog tyI fnF glo0 drawn 1000000 127 2 .z = some F127 := by kernel_rfl
theorem h133 : lowO Tryz.prog tyI fnF glo0 drawn 1000000 133 1 (.p [] .z (.p [0,2] .z (.p [0,2] (.p [] .z (.p [] (.p [0,2] .z .z) .z)) (.p [] .z (.p [] .z (.p [0,2,3,4] .z (.p [] .z (.p [0,2,3,5] .z (.p [0,2,3,5] .z .z))))))))) = some F133 := by kernel_rfl
theorem h135 : lowO Tryz.prog tyI fnF glo0 drawn 1000000 135 2 .z = some F135 := by kernel_rfl
theorem h137 : lowO Tryz.prog tyI fnF glo0 drawn 1000000 137 4 (.p [] .z (.u [] (.u [0,1,2,3,10,11] (.p [] .z (.p [0,1,2,3,10,11] .z (.p [0,1,2,3,10,11] .z .z)))))) = some F137 := by kernel_rfl
theorem h138 : lowO Tryz.prog tyI fnF glo0 drawn 1000000 138 1 .z = some F138 := by kernel_rfl
theorem h139 : lowO Tryz.prog tyI fnF glo0 drawn 1000000 139 3 (.p [] .z (.p [] .z (.p [0,2,7] .z (.p [0,7] .z .z)))) = some F139 := by kernel_rfl
theorem h160 : lowO Tryz.prog tyI fnF glo0 drawn 1000000 160 2 (.p [] .z (.p [0,1] .z (.p [] .z (.u [] (.u [0,1,6] (.u [] (.p [] .z (.p [0,1,7] .z (.p [0,1,7] .z (.p [] .z (.p [0,1,9,10] .z (.p [0,1,10] .z .z)))))))))))) = some F160 := by kernel_rfl
theorem h172 : lowO Tryz.prog tyI fnF glo0 drawn 1000000 172 1 (.p [] .z (.p [] .z (.p [0,2,3] .z .z))) = some F172 := by kernel_rfl
theorem h183 : lowO Tryz.prog tyI fnF glo0 drawn 1000000 183 2 .z = some F183 := by kernel_rfl
theorem h202 : lowO Tryz.prog tyI fnF glo0 drawn 1000000 202 3 (.p [] .z (.p [] .z (.p [2,3,4,7] .z (.p [4] .z .z)))) = some F202 := by kernel_rfl
theorem h211 : lowO Tryz.prog tyI fnF glo0 drawn 1000000 211 2 (.p [] .z (.p [] .z (.p [0,1,4,5] .z (.p [] .z (.u [] (.u [0,1,4,5,6] (.u [] (.p [] .z (.p [0,1,4,5,6,7] .z (.p [] .z (.p [0,1,4,5,6,8] .z (.p [] .z (.p [] .z (.p [0,1,4,5,6,8,9] .z .z)))))))))))))) = some F211 := by kernel_rfl
theorem h215 : lowO Tryz.prog tyI fnF glo0 drawn 1000000 215 4 (.p [] .z (.p [0,1] (.p [] .z (.u [] (.u [0,1,3,9] (.p [0,1,3,9] .z (.p [0,1,3,9] (.u [] (.p [] .z (.p [0,1,3,9,10] .z (.p [0,1,10] .z .z)))) .z))))) .z)) = some F215 := by kernel_rfl
theorem h221 : lowO Tryz.prog tyI fnF glo0 drawn 1000000 221 2 (.p [] .z (.p [0,3] .z .z)) = some F221 := by kernel_rfl
theorem h282 : lowO Tryz.prog tyI fnF glo0 drawn 1000000 282 2 .z = some F282 := by kernel_rfl
theorem h286 : lowO Tryz.prog tyI fnF glo0 drawn 1000000 286 1 (.p [] .z (.p [] .z (.p [] .z (.p [0,2,3,4] .z (.p [] .z (.p [0,2,3,5] .z (.p [0,2,3,5] .z .z))))))) = some F286 := by kernel_rfl
theorem h309 : lowO Tryz.prog tyI fnF glo0 drawn 1000000 309 2 (.p [] .z (.p [] (.p [] .z (.u [] (.u [0,1,7,8] (.p [] .z (.p [0,1,7,8] .z (.p [0,1,7,8] .z .z)))))) .z)) = some F309 := by kernel_rfl
end Go.Proofs.YtaikcgmgjchfmaaGreatDoor
