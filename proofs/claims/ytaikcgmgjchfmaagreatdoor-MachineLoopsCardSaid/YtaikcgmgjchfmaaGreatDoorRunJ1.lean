/- The lifted forms are those of the program: by the kernel (part 1). -/
import Derived.Test.YtaikcgmgjchfmaaGreatDoorRunC0
import Derived.KernelRfl
namespace Go.Proofs.YtaikcgmgjchfmaaGreatDoor
open Go Go.Ev
set_option maxRecDepth 1000000
set_option maxHeartbeats 40000000
theorem h20 : lowO Tryz.prog tyI fnF glo0 drawn 1000000 20 2 (.p [] .z (.p [] .z (.p [0,5] .z .z))) = some F20 := by kernel_rfl
theorem h23 : lowO Tryz.prog tyI fnF glo0 drawn 1000000 23 2 (.p [] .z (.p [] .z (.p [] (.p [] .z (.p [0,1,3] .z .z)) .z))) = some F23 := by kernel_rfl
theorem h31 : lowO Tryz.prog tyI fnF glo0 drawn 1000000 31 1 (.p [] .z (.p [] .z (.p [] .z (.p [] .z (.p [2,3,4] (.p [] .z (.u [] (.u [2,3,4,18,19,20] (.p [] .z (.p [2,3,4,18,19,20] .z (.p [2,3,4,18,19,20] .z .z)))))) .z))))) = some F31 := by kernel_rfl
theorem h45 : lowO Tryz.prog tyI fnF glo0 drawn 1000000 45 2 (.p [] .z (.p [] .z (.p [] .z (.p [5,6] .z .z)))) = some F45 := by kernel_rfl
theorem h75 : lowO Tryz.prog tyI fnF glo0 drawn 1000000 75 1 (.p [] .z (.p [2] (.p [] .z (.u [] (.p [] .z (.p [] .z (.p [] .z (.p [] .z (.p [] .z (.p [] .z (.p [] .z (.p [] .z (.p [1,2,26] .z .z))))))))))) .z)) = some F75 := by kernel_rfl
theorem h80 : lowO Tryz.prog tyI fnF glo0 drawn 1000000 80 2 (.p [] .z (.p [0,3] .z .z)) = some F80 := by kernel_rfl
theorem h119 : lowO Tryz.prog tyI fnF glo0 drawn 1000000 119 1 (.p [] .z (.p [] .z (.p [] .z (.p [5] .z .z)))) = some F119 := by kernel_rfl
theorem h124 : lowO Tryz.prog tyI fnF glo0 drawn 1000000 124 2 (.p [] .z (.p [4] .z .z)) = some F124 := by kernel_rfl
theorem h125 : lowO Tryz.prog tyI fnF glo0 drawn 1000000 125 3 .z = some F125 := by kernel_rfl
theorem h141 : lowO Tryz.prog tyI fnF glo0 drawn 1000000 141 2 (.p [] .z (.u [] (.p [] .z (.p [] .z (.p [] .z (.p [] .z (.p [] .z (.p [] .z (.p [] .z (.p [] .z (.p [] .z (.p [] .z (.p [] .z (.p [] .z (.p [] .z (.p [] .z (.p [] .z (.p [] .z (.p [] .z (.p [] (.p [] .z (.p [] .z (.u [] (.u [0,1,67,68] (.p [] .z (.p [0,1,67,68] .z (.p [0,1,67,68] .z .z))))))) .z)))))))))))))))))))) = some F141 := by kernel_rfl
theorem h144 : lowO Tryz.prog tyI fnF glo0 drawn 1000000 144 2 (.p [] .z (.p [] .z (.p [0,5] .z .z))) = some F144 := by kernel_rfl
theorem h148 : lowO Tryz.prog tyI fnF glo0 drawn 1000000 148 2 .z = some F148 := by kernel_rfl
theorem h161 : lowO Tryz.prog tyI fnF glo0 drawn 1000000 161 2 .z = some F161 := by kernel_rfl
theorem h177 : lowO Tryz.prog tyI fnF glo0 drawn 1000000 177 4 (.p [1,2,3] .z .z) = some F177 := by kernel_rfl
theorem h182 : lowO Tryz.prog tyI fnF glo0 drawn 1000000 182 2 .z = some F182 := by kernel_rfl
theorem h204 : lowO Tryz.prog tyI fnF glo0 drawn 1000000 204 3 (.p [] .z (.p [] .z (.p [8] .z .z))) = some F204 := by kernel_rfl
theorem h216 : lowO Tryz.prog tyI fnF glo0 drawn 1000000 216 4 (.p [] .z (.u [] (.u [0,1,2,3,10,11] (.p [] .z (.p [0,1,2,3,10,11] .z (.p [0,1,2,3,10,11] .z .z)))))) = some F216 := by kernel_rfl
theorem h232 : lowO Tryz.prog tyI fnF glo0 drawn 1000000 232 1 (.p [] .z (.p [0,2] .z (.p [] .z (.p [] .z (.p [2,4] .z .z))))) = some F232 := by kernel_rfl
theorem h237 : lowO Tryz.prog tyI fnF glo0 drawn 1000000 237 2 .z = some F237 := by kernel_rfl
theorem h238 : lowO Tryz.prog tyI fnF glo0 drawn 1000000 238 2 .z = some F238 := by kernel_rfl
theorem h269 : lowO Tryz.prog tyI fnF glo0 drawn 1000000 269 0 .z = some F269 := by kernel_rfl
theorem h272 : lowO Tryz.prog tyI fnF glo0 drawn 1000000 272 3 (.p [] .z (.p [0,1,2] .z (.p [] .z (.p [] .z (.p [0,1,2,8,9] .z (.p [0,1,2,8,9] .z (.p [] .z (.p [0,1,2,8,9,10] .z (.p [] .z (.p [] .z (.p [] .z (.p [9,12,13] (.p [] .z (.u [] (.u [1,8,9,10,11,12,13,99,100,101] (.p [] .z (.p [1,8,9,10,11,12,13,99,100,101] .z (.p [1,8,9,10,11,12,13,99,100,101] (.u [] (.p [] .z (.p [] .z (.p [1,8,9,10,11,12,13,16,99,100,101] .z (.p [1,8,9,10,11,12,13,16,99,100,101] .z (.p [1,8,9,10,11,12,13,16,99,100,101] .z (.p [] .z (.p [] .z (.p [1,8,9,10,11,12,17,99,100,101] .z .z))))))))) .z)))))) (.p [13] .z .z))))))))))))) = some F272 := by kernel_rfl
theorem h281 : lowO Tryz.prog tyI fnF glo0 drawn 1000000 281 2 .z = some F281 := by kernel_rfl
theorem h308 : lowO Tryz.prog tyI fnF glo0 drawn 1000000 308 1 (.p [] .z (.p [] .z (.p [0,2,3] (.p [] .z (.p [] (.p [] .z (.p [0,2,3] (.p [] .z (.u [] (.u [0,2,3,4] (.p [0,2,3] .z .z)))) .z)) .z)) (.u [] (.u [0,2,3] (.u [] (.p [] .z (.p [0,2,3] .z (.p [0,2,3] .z .z))))))))) = some F308 := by kernel_rfl
theorem h317 : lowO Tryz.prog tyI fnF glo0 drawn 1000000 317 2 (.p [] .z (.p [] .z (.p [0,1,5] .z (.u [] (.u [0,1,5] (.u [] (.p [] .z (.p [0,1,5] .z .z)))))))) = some F317 := by kernel_rfl
end Go.Proofs.YtaikcgmgjchfmaaGreatDoor
