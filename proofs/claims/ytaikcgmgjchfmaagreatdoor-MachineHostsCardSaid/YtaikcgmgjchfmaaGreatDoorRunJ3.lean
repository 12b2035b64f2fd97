/- The lifted forms are those of the program: by the kernel (part 3). -/
import Derived.Test.YtaikcgmgjchfmaaGreatDoorRunC0
import Derived.KernelRfl
namespace Go.Proofs.YtaikcgmgjchfmaaGreatDoor
open Go Go.Ev
set_option maxRecDepth 1000000
set_option maxHeartbeats 40000000
theorem h7 : lowO Tryz.prog tyI fnF glo0 drawn 1000000 7 1 (.p [] .z (.p [0] .z (.p [0] .z (.p [] .z (.p [3] (.p [] .z (.u [] (.u [0,3] (.p [0,3] .z (.p [0,3] .z .z))))) .z))))) = some F7 := by kernel_rfl
theorem h27 : lowO Tryz.prog tyI fnF glo0 drawn 1000000 27 3 (.p [] .z (.p [1,3,5,6] (.p [] .z (.u [] (.p [] .z (.p [] .z (.p [] .z (.p [] .z (.p [] .z (.p [] .z (.p [] .z (.p [] .z (.p [] .z (.p [] .z (.p [] .z (.p [] .z (.p [] .z (.p [] .z (.p [1,3,5,6,81] .z .z))))))))))))))))) (.p [3,6] .z .z))) = some F27 := by kernel_rfl
theorem h34 : lowO Tryz.prog tyI fnF glo0 drawn 1000000 34 4 (.p [] .z (.p [] .z (.p [2,7,9] .z (.p [] .z (.p [2,7,9] (.p [] .z (.p [] (.p [2,7,9] (.p [] .z (.p [] (.p [7,9] .z .z) .z)) (.p [] .z (.p [] .z (.p [] (.p [7,9,10] .z .z) .z)))) .z)) (.p [2,7,9] .z (.p [2,7,9] .z .z))))))) = some F34 := by kernel_rfl
theorem h35 : lowO Tryz.prog tyI fnF glo0 drawn 1000000 35 1 .z = some F35 := by kernel_rfl
theorem h79 : lowO Tryz.prog tyI fnF glo0 drawn 1000000 79 2 (.p [] .z (.p [2,3,4] .z (.p [] .z (.p [3,4,5] .z .z)))) = some F79 := by kernel_rfl
theorem h120 : lowO Tryz.prog tyI fnF glo0 drawn 1000000 120 1 (.p [] .z (.p [] .z (.p [] (.p [] .z (.u [] (.u [3,6,7,8] (.p [] .z (.p [3,6,7,8] .z (.p [3,6,7,8] (.u [] (.p [] .z (.p [3,5,6,7,8] .z (.p [] .z (.u [] (.p [3,6,7,8,16,17] .z (.p [] .z (.p [3,6,7,8,25] .z .z)))))))) .z)))))) .z))) = some F120 := by kernel_rfl
theorem h123 : lowO Tryz.prog tyI fnF glo0 drawn 1000000 123 2 (.p [] .z (.p [1,2] .z (.p [] (.p [] .z (.u [] (.u [1,10,11,12] (.p [] .z (.p [1,10,11,12] .z (.p [1,10,11,12] .z .z)))))) .z))) = some F123 := by kernel_rfl
theorem h124 : lowO Tryz.prog tyI fnF glo0 drawn 1000000 124 2 (.p [] .z (.p [4] .z .z)) = some F124 := by kernel_rfl
theorem h127 : lowO Tryz.prog tyI fnF glo0 drawn 1000000 127 2 .z = some F127 := by kernel_rfl
theorem h131 : lowO Tryz.prog tyI fnF glo0 drawn 1000000 131 2 (.p [] .z (.p [0] .z .z)) = some F131 := by kernel_rfl
theorem h135 : lowO Tryz.prog tyI fnF glo0 drawn 1000000 135 2 .z = some F135 := by kernel_rfl
theorem h136 : lowO Tryz.prog tyI fnF glo0 drawn 1000000 136 3 (.p [] .z (.u [] (.u [0,1,10,11,12] (.p [] .z (.p [0,1,10,11,12] .z (.p [0,1,10,11,12] (.u [] (.p [] .z (.p [] .z (.u [] (.u [0,1,7,10,11,12,18,19,20] (.p [] .z (.p [0,1,7,10,11,12,18,19,20] .z (.p [0,1,7,10,11,12,18,19,20] .z .z)))))))) .z)))))) = some F136 := by kernel_rfl
theorem h148 : lowO Tryz.prog tyI fnF glo0 drawn 1000000 148 2 .z = some F148 := by kernel_rfl
theorem h160 : lowO Tryz.prog tyI fnF glo0 drawn 1000000 160 2 (.p [] .z (.p [0,1] .z (.p [] .z (.u [] (.u [0,1,6] (.u [] (.p [] .z (.p [0,1,7] .z (.p [0,1,7] .z (.p [] .z (.p [0,1,9,10] .z (.p [0,1,10] .z .z)))))))))))) = some F160 := by kernel_rfl
theorem h173 : lowO Tryz.prog tyI fnF glo0 drawn 1000000 173 3 (.p [] .z (.p [] (.p [] .z (.u [] (.u [0,2,7] (.p [0,2,7] .z (.p [0,2,7] .z .z))))) .z)) = some F173 := by kernel_rfl
theorem h176 : lowO Tryz.prog tyI fnF glo0 drawn 1000000 176 1 (.p [] .z (.p [] .z (.p [3] (.p [] .z (.u [] (.u [3,8,9,10] (.p [] .z (.p [3,8,9,10] .z (.p [3,8,9,10] (.u [] (.p [] .z (.p [] .z (.u [] (.p [3,5,8,9,10,15,16] .z (.p [] (.p [] .z (.u [] (.u [3,8,9,10,20,21,22] (.p [] .z (.p [3,8,9,10,20,21,22] .z (.p [3,8,9,10,20,21,22] .z .z)))))) .z)))))) .z)))))) .z))) = some F176 := by kernel_rfl
theorem h177 : lowO Tryz.prog tyI fnF glo0 drawn 1000000 177 4 (.p [1,2,3] .z .z) = some F177 := by kernel_rfl
theorem h203 : lowO Tryz.prog tyI fnF glo0 drawn 1000000 203 2 (.p [] .z (.p [] .z (.p [1,5] .z .z))) = some F203 := by kernel_rfl
theorem h207 : lowO Tryz.prog tyI fnF glo0 drawn 1000000 207 3 (.p [] .z (.u [] (.u [0,1,2,5] (.p [] .z (.p [0,1,2,5] .z (.p [0,1,2,5] (.u [] (.p [] .z (.p [0,1,2,4,5] .z .z))) .z)))))) = some F207 := by kernel_rfl
theorem h209 : lowO Tryz.prog tyI fnF glo0 drawn 1000000 209 2 (.p [] .z (.p [] .z (.p [] .z (.p [0,1,4,7] (.u [] (.p [] .z (.p [] (.p [] .z (.p [0,1,4,7,9] (.u [] (.u [0,1,4,7,9] (.p [0,1,4,7,9] .z .z))) (.p [] .z (.p [4,7,9] .z .z)))) (.p [] .z (.p [] (.p [] .z (.p [0,1,4,7,10] .z .z)) (.p [] .z (.p [] (.p [] .z (.p [4,7,12,13] .z .z)) .z))))))) (.p [] .z (.p [1,4,7] .z .z)))))) = some F209 := by kernel_rfl
theorem h212 : lowO Tryz.prog tyI fnF glo0 drawn 1000000 212 1 (.p [] .z (.p [0] .z .z)) = some F212 := by kernel_rfl
theorem h221 : lowO Tryz.prog tyI fnF glo0 drawn 1000000 221 2 (.p [] .z (.p [0,3] .z .z)) = some F221 := by kernel_rfl
theorem h233 : lowO Tryz.prog tyI fnF glo0 drawn 1000000 233 3 (.p [] .z (.p [0,1,2] .z (.p [] .z (.p [0,1,2,8] .z (.p [] .z (.p [] .z (.p [2,8,9] .z (.p [2,8,9] .z (.p [] .z (.p [8,9,10] .z (.p [8,9] .z (.p [] .z (.p [11] .z .z))))))))))))) = some F233 := by kernel_rfl
theorem h237 : lowO Tryz.prog tyI fnF glo0 drawn 1000000 237 2 .z = some F237 := by kernel_rfl
theorem h241 : lowO Tryz.prog tyI fnF glo0 drawn 1000000 241 1 .z = some F241 := by kernel_rfl
theorem h246 : lowO Tryz.prog tyI fnF glo0 drawn 1000000 246 0 .z = some F246 := by kernel_rfl
theorem h247 : lowO Tryz.prog tyI fnF glo0 drawn 1000000 247 1 (.p [] .z (.p [] .z (.p [0,2,3] .z (.p [0,2,3] (.p [] .z (.p [] (.p [0,2] .z .z) .z)) (.p [0,2,3] (.p [] .z (.p [] .z (.p [] (.p [] .z (.p [] .z (.p [2,4,5] .z .z))) .z))) (.p [] .z (.p [0,2,6] .z (.p [] .z (.p [] .z (.p [2,6,7] .z .z)))))))))) = some F247 := by kernel_rfl
theorem h259 : lowO Tryz.prog tyI fnF glo0 drawn 1000000 259 2 .z = some F259 := by kernel_rfl
theorem h261 : lowO Tryz.prog tyI fnF glo0 drawn 1000000 261 2 (.p [] .z (.p [] (.p [] .z (.u [] (.u [0,3,7,8] (.p [] .z (.p [0,3,7,8] .z (.p [0,3,7,8] .z .z)))))) .z)) = some F261 := by kernel_rfl
end Go.Proofs.YtaikcgmgjchfmaaGreatDoor
