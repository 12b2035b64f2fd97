/- The lifted forms are those of the program: by the kernel (part 2). -/
import Derived.Test.YtaikcgmgjchfmaaGreatDoorRunC0
import Derived.KernelRfl
namespace Go.Proofs.YtaikcgmgjchfmaaGreatDoor
open Go Go.Ev
set_option maxRecDepth 1000000
set_option maxHeartbeats 40000000
theorem h16 : lowO Tryz.prog tyI fnF glo0 drawn 1000000 16 2 .z = some F16 := by kernel_rfl
theorem h21 : lowO Tryz.prog tyI fnF glo0 drawn 1000000 21 1 .z = some F21 := by kernel_rfl
theorem h23 : lowO Tryz.prog tyI fnF glo0 drawn 1000000 23 2 (.p [] .z (.p [] .z (.p [] (.p [] .z (.p [0,1,3] .z .z)) .z))) = some F23 := by kernel_rfl
theorem h31 : lowO Tryz.prog tyI fnF glo0 drawn 1000000 31 1 (.p [] .z (.p [] .z (.p [] .z (.p [] .z (.p [2,3,4] (.p [] .z (.u [] (.u [2,3,4,18,19,20] (.p [] .z (.p [2,3,4,18,19,20] .z (.p [2,3,4,18,19,20] .z .z)))))) .z))))) = some F31 := by kernel_rfl
theorem h41 : lowO Tryz.prog tyI fnF glo0 drawn 1000000 41 2 (.p [] .z (.p [1,2] .z .z)) = some F41 := by kernel_rfl
theorem h47 : lowO Tryz.prog tyI fnF glo0 drawn 1000000 47 2 (.p [] .z (.p [3,4] .z .z)) = some F47 := by kernel_rfl
theorem h90 : lowO Tryz.prog tyI fnF glo0 drawn 1000000 90 2 (.p [] .z (.p [2,3] .z .z)) = some F90 := by kernel_rfl
theorem h125 : lowO Tryz.prog tyI fnF glo0 drawn 1000000 125 3 .z = some F125 := by kernel_rfl
theorem h137 : lowO Tryz.prog tyI fnF glo0 drawn 1000000 137 4 (.p [] .z (.u [] (.u [0,1,2,3,10,11] (.p [] .z (.p [0,1,2,3,10,11] .z (.p [0,1,2,3,10,11] .z .z)))))) = some F137 := by kernel_rfl
theorem h139 : lowO Tryz.prog tyI fnF glo0 drawn 1000000 139 3 (.p [] .z (.p [] .z (.p [0,2,7] .z (.p [0,7] .z .z)))) = some F139 := by kernel_rfl
theorem h140 : lowO Tryz.prog tyI fnF glo0 drawn 1000000 140 3 (.p [] .z (.u [] (.u [0,1,2,9,10] (.p [] .z (.p [0,1,2,9,10] .z (.p [0,1,2,9,10] .z .z)))))) = some F140 := by kernel_rfl
theorem h144 : lowO Tryz.prog tyI fnF glo0 drawn 1000000 144 2 (.p [] .z (.p [] .z (.p [0,5] .z .z))) = some F144 := by kernel_rfl
theorem h147 : lowO Tryz.prog tyI fnF glo0 drawn 1000000 147 2 (.p [] .z (.p [] (.p [] .z (.u [] (.u [0,1,7,8] (.p [] .z (.p [0,1,7,8] .z (.p [0,1,7,8] .z .z)))))) .z)) = some F147 := by kernel_rfl
theorem h161 : lowO Tryz.prog tyI fnF glo0 drawn 1000000 161 2 .z = some F161 := by kernel_rfl
theorem h172 : lowO Tryz.prog tyI fnF glo0 drawn 1000000 172 1 (.p [] .z (.p [] .z (.p [0,2,3] .z .z))) = some F172 := by kernel_rfl
theorem h179 : lowO Tryz.prog tyI fnF glo0 drawn 1000000 179 4 (.p [] .z (.u [] (.p [] .z (.p [] .z (.p [0,1,2,3,17,33] .z (.p [] (.p [0,1,2,3] (.p [] .z (.p [] .z (.p [] (.p [0,1,2,3] .z .z) .z))) .z) (.p [] .z (.p [] .z (.p [] .z (.p [] .z (.p [] .z (.p [] .z (.p [] .z (.p [] (.p [] .z (.p [] .z (.p [0,1,3,13] .z .z))) .z)))))))))))))) = some F179 := by kernel_rfl
theorem h182 : lowO Tryz.prog tyI fnF glo0 drawn 1000000 182 2 .z = some F182 := by kernel_rfl
theorem h200 : lowO Tryz.prog tyI fnF glo0 drawn 1000000 200 1 .z = some F200 := by kernel_rfl
theorem h204 : lowO Tryz.prog tyI fnF glo0 drawn 1000000 204 3 (.p [] .z (.p [] .z (.p [8] .z .z))) = some F204 := by kernel_rfl
theorem h208 : lowO Tryz.prog tyI fnF glo0 drawn 1000000 208 2 (.p [] .z (.p [1] (.u [] (.u [0,1] (.p [0,1] .z (.u [] (.u [] (.p [] .z (.p [] .z (.p [] .z (.p [] (.p [] .z (.p [0,1,6] .z .z)) (.p [] .z (.p [] (.p [] .z (.p [0,1,7] .z .z)) .z))))))))))) .z)) = some F208 := by kernel_rfl
theorem h222 : lowO Tryz.prog tyI fnF glo0 drawn 1000000 222 1 .z = some F222 := by kernel_rfl
theorem h225 : lowO Tryz.prog tyI fnF glo0 drawn 1000000 225 2 (.p [] .z (.p [0,1] .z .z)) = some F225 := by kernel_rfl
theorem h242 : lowO Tryz.prog tyI fnF glo0 drawn 1000000 242 1 (.p [] .z (.p [] (.p [] .z (.u [] (.p [4] .z .z))) .z)) = some F242 := by kernel_rfl
theorem h245 : lowO Tryz.prog tyI fnF glo0 drawn 1000000 245 1 (.p [] .z (.p [0] (.u [] (.p [0,3] .z .z)) (.p [0] (.p [] .z (.p [] (.p [] .z (.u [] (.p [0,15] .z .z))) .z)) .z))) = some F245 := by kernel_rfl
theorem h271 : lowO Tryz.prog tyI fnF glo0 drawn 1000000 271 1 (.p [] .z (.p [] (.p [] .z (.u [] (.p [4,5] .z (.p [] .z (.p [4,20] .z (.p [] .z (.p [] .z (.p [] .z (.p [] .z (.p [] .z (.p [] .z (.p [] .z (.p [] .z (.p [] .z (.p [4,43] .z (.p [] .z (.p [4,51] .z (.p [] .z (.p [59] .z .z))))))))))))))))))) .z)) = some F271 := by kernel_rfl
theorem h272 : lowO Tryz.prog tyI fnF glo0 drawn 1000000 272 3 (.p [] .z (.p [0,1,2] .z (.p [] .z (.p [] .z (.p [0,1,2,8,9] .z (.p [0,1,2,8,9] .z (.p [] .z (.p [0,1,2,8,9,10] .z (.p [] .z (.p [] .z (.p [] .z (.p [9,12,13] (.p [] .z (.u [] (.u [1,8,9,10,11,12,13,99,100,101] (.p [] .z (.p [1,8,9,10,11,12,13,99,100,101] .z (.p [1,8,9,10,11,12,13,99,100,101] (.u [] (.p [] .z (.p [] .z (.p [1,8,9,10,11,12,13,16,99,100,101] .z (.p [1,8,9,10,11,12,13,16,99,100,101] .z (.p [1,8,9,10,11,12,13,16,99,100,101] .z (.p [] .z (.p [] .z (.p [1,8,9,10,11,12,17,99,100,101] .z .z))))))))) .z)))))) (.p [13] .z .z))))))))))))) = some F272 := by kernel_rfl
theorem h289 : lowO Tryz.prog tyI fnF glo0 drawn 1000000 289 2 .z = some F289 := by kernel_rfl
theorem h316 : lowO Tryz.prog tyI fnF glo0 drawn 1000000 316 2 (.p [] .z (.p [0,3,4] (.p [] .z (.p [] (.p [] .z (.p [0,3,4,6] .z .z)) .z)) (.p [3,4] .z .z))) = some F316 := by kernel_rfl
theorem h317 : lowO Tryz.prog tyI fnF glo0 drawn 1000000 317 2 (.p [] .z (.p [] .z (.p [0,1,5] .z (.u [] (.u [0,1,5] (.u [] (.p [] .z (.p [0,1,5] .z .z)))))))) = some F317 := by kernel_rfl
end Go.Proofs.YtaikcgmgjchfmaaGreatDoor
