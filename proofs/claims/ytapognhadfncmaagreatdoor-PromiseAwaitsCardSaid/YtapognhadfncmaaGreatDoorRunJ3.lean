/- The lifted forms are those of the program: by the kernel (part 3). -/
import Derived.Test.YtapognhadfncmaaGreatDoorRunC0
import Derived.KernelRfl
namespace Go.Proofs.YtapognhadfncmaaGreatDoor
open Go Go.Ev
set_option maxRecDepth 1000000
set_option maxHeartbeats 40000000
theorem h10 : lowO Tryz.prog tyI fnF glo0 drawn 1000000 10 1 .z = some F10 := by kernel_rfl
theorem h18 : lowO Tryz.prog tyI fnF glo0 drawn 1000000 18 1 .z = some F18 := by kernel_rfl
theorem h35 : lowO Tryz.prog tyI fnF glo0 drawn 1000000 35 3 (.p [] .z (.p [1,3,5,6] (.p [] .z (.u [] (.p [] .z (.p [] .z (.p [] .z (.p [] .z (.p [] .z (.p [] .z (.p [] .z (.p [] .z (.p [] .z (.p [] .z (.p [] .z (.p [] .z (.p [] .z (.p [] .z (.p [1,3,5,6,81] .z .z))))))))))))))))) (.p [3,6] .z .z))) = some F35 := by kernel_rfl
theorem h67 : lowO Tryz.prog tyI fnF glo0 drawn 1000000 67 3 (.p [] .z (.p [] .z (.u [] (.p [] .z (.p [] (.p [] .z (.p [3,5,6] .z .z)) .z))))) = some F67 := by kernel_rfl
theorem h68 : lowO Tryz.prog tyI fnF glo0 drawn 1000000 68 3 (.p [] .z (.p [] .z (.p [1,3,5,6] (.p [] .z (.u [] (.p [1,3,5,6,14,15] .z (.p [] (.p [1,3,5] .z .z) (.p [1,3,5,6,42] .z .z))))) (.p [] .z (.u [] (.p [1,3,5,6,51,52] .z (.p [] .z (.p [1,3,5,6,51,63] .z (.p [] .z (.p [1,3,5,6,51,76] .z (.p [] .z (.p [] .z (.p [] .z (.p [] .z (.p [] (.p [] .z (.p [] .z (.p [1,8,9] (.p [] .z (.u [] (.u [1,8,9,97,98] (.p [] .z (.p [1,8,9,97,98] .z (.p [1,8,9,97,98] .z .z)))))) .z))) (.p [] .z (.p [] .z (.p [] .z (.p [] (.p [] .z (.p [] .z (.p [1,3,10,11] .z .z))) .z))))))))))))))))))) = some F68 := by kernel_rfl
theorem h104 : lowO Tryz.prog tyI fnF glo0 drawn 1000000 104 2 (.p [] .z (.p [] .z (.p [0,5] .z .z))) = some F104 := by kernel_rfl
theorem h137 : lowO Tryz.prog tyI fnF glo0 drawn 1000000 137 1 (.p [] .z (.p [] .z (.p [] .z (.p [5] .z .z)))) = some F137 := by kernel_rfl
theorem h142 : lowO Tryz.prog tyI fnF glo0 drawn 1000000 142 2 (.p [] .z (.p [4] .z .z)) = some F142 := by kernel_rfl
theorem h143 : lowO Tryz.prog tyI fnF glo0 drawn 1000000 143 3 .z = some F143 := by kernel_rfl
theorem h149 : lowO Tryz.prog tyI fnF glo0 drawn 1000000 149 2 (.p [] .z (.p [0] .z .z)) = some F149 := by kernel_rfl
theorem h153 : lowO Tryz.prog tyI fnF glo0 drawn 1000000 153 2 .z = some F153 := by kernel_rfl
theorem h170 : lowO Tryz.prog tyI fnF glo0 drawn 1000000 170 2 .z = some F170 := by kernel_rfl
theorem h189 : lowO Tryz.prog tyI fnF glo0 drawn 1000000 189 3 (.p [] .z (.p [] (.p [] .z (.u [] (.u [0,2,7] (.p [0,2,7] .z (.p [0,2,7] .z .z))))) .z)) = some F189 := by kernel_rfl
theorem h198 : lowO Tryz.prog tyI fnF glo0 drawn 1000000 198 2 .z = some F198 := by kernel_rfl
theorem h217 : lowO Tryz.prog tyI fnF glo0 drawn 1000000 217 3 .z = some F217 := by kernel_rfl
theorem h238 : lowO Tryz.prog tyI fnF glo0 drawn 1000000 238 2 (.p [] .z (.p [] .z (.p [0,1,4,5] .z (.p [] .z (.u [] (.u [0,1,4,5,6] (.u [] (.p [] .z (.p [0,1,4,5,6,7] .z (.p [] .z (.p [0,1,4,5,6,8] .z (.p [] .z (.p [] .z (.p [0,1,4,5,6,8,9] .z .z)))))))))))))) = some F238 := by kernel_rfl
theorem h241 : lowO Tryz.prog tyI fnF glo0 drawn 1000000 241 2 (.p [] .z (.p [] (.p [] .z (.u [] (.u [1,10,11,12] (.p [] .z (.p [1,10,11,12] .z (.p [1,10,11,12] .z .z)))))) .z)) = some F241 := by kernel_rfl
theorem h272 : lowO Tryz.prog tyI fnF glo0 drawn 1000000 272 2 .z = some F272 := by kernel_rfl
theorem h275 : lowO Tryz.prog tyI fnF glo0 drawn 1000000 275 1 .z = some F275 := by kernel_rfl
theorem h277 : lowO Tryz.prog tyI fnF glo0 drawn 1000000 277 1 (.p [] .z (.p [] (.p [] .z (.u [] (.p [4] .z .z))) .z)) = some F277 := by kernel_rfl
theorem h280 : lowO Tryz.prog tyI fnF glo0 drawn 1000000 280 1 (.p [] .z (.p [0] (.u [] (.p [0,3] .z .z)) (.p [0] (.p [] .z (.p [] (.p [] .z (.u [] (.p [0,15] .z .z))) .z)) .z))) = some F280 := by kernel_rfl
theorem h282 : lowO Tryz.prog tyI fnF glo0 drawn 1000000 282 1 (.p [] .z (.p [] .z (.p [0,2,3] .z (.p [0,2,3] (.p [] .z (.p [] (.p [0,2] .z .z) .z)) (.p [0,2,3] (.p [] .z (.p [] .z (.p [] (.p [] .z (.p [] .z (.p [2,4,5] .z .z))) .z))) (.p [] .z (.p [0,2,6] .z (.p [] .z (.p [] .z (.p [2,6,7] .z .z)))))))))) = some F282 := by kernel_rfl
theorem h329 : lowO Tryz.prog tyI fnF glo0 drawn 1000000 329 2 (.p [] .z (.p [] (.p [] .z (.u [] (.u [0,1,7,8] (.p [] .z (.p [0,1,7,8] .z (.p [0,1,7,8] .z .z)))))) .z)) = some F329 := by kernel_rfl
theorem h333 : lowO Tryz.prog tyI fnF glo0 drawn 1000000 333 2 (.p [] .z (.p [0,3,4] (.p [] .z (.p [] (.p [] .z (.p [0,3,4,6] .z .z)) .z)) (.p [3,4] .z .z))) = some F333 := by kernel_rfl
end Go.Proofs.YtapognhadfncmaaGreatDoor
