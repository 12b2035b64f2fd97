/- The lifted forms are those of the program: by the kernel (part 1). -/
import Derived.Test.YtapognhadfncmaaGreatDoorRunC0
import Derived.KernelRfl
namespace Go.Proofs.YtapognhadfncmaaGreatDoor
open Go Go.Ev
set_option maxRecDepth 1000000
set_option maxHeartbeats 40000000
theorem h12 : lowO Tryz.prog tyI fnF glo0 drawn 1000000 12 3 (.p [] .z (.p [] .z (.p [2,6,8] .z (.p [2,6,8] (.p [] .z (.p [] (.p [2,6,8] .z (.p [] .z (.p [] .z (.p [] (.p [6] .z .z) .z)))) .z)) (.p [6] .z .z))))) = some F12 := by kernel_rfl
theorem h14 : lowO Tryz.prog tyI fnF glo0 drawn 1000000 14 2 (.p [] .z (.p [0,1] .z (.p [0,1] .z (.p [] .z (.p [0,6] .z .z))))) = some F14 := by kernel_rfl
theorem h29 : lowO Tryz.prog tyI fnF glo0 drawn 1000000 29 1 .z = some F29 := by kernel_rfl
theorem h52 : lowO Tryz.prog tyI fnF glo0 drawn 1000000 52 2 .z = some F52 := by kernel_rfl
theorem h53 : lowO Tryz.prog tyI fnF glo0 drawn 1000000 53 2 (.p [] .z (.p [1,2] .z .z)) = some F53 := by kernel_rfl
theorem h61 : lowO Tryz.prog tyI fnF glo0 drawn 1000000 61 1 .z = some F61 := by kernel_rfl
theorem h74 : lowO Tryz.prog tyI fnF glo0 drawn 1000000 74 1 .z = some F74 := by kernel_rfl
theorem h93 : lowO Tryz.prog tyI fnF glo0 drawn 1000000 93 1 (.p [] .z (.p [0,2] .z .z)) = some F93 := by kernel_rfl
theorem h145 : lowO Tryz.prog tyI fnF glo0 drawn 1000000 145 2 .z = some F145 := by kernel_rfl
theorem h160 : lowO Tryz.prog tyI fnF glo0 drawn 1000000 160 3 (.p [] .z (.u [] (.p [0,1,2,12,13] .z (.p [] .z (.p [] .z (.p [] .z (.p [] .z (.p [] .z (.p [] .z (.p [] (.p [] .z (.p [] .z (.p [] .z (.p [0,1,2,6] .z .z)))) (.p [] .z (.p [] .z (.p [] .z (.p [] .z (.p [] .z (.p [] .z (.p [] .z (.p [] (.p [0] .z .z) .z)))))))))))))))))) = some F160 := by kernel_rfl
theorem h176 : lowO Tryz.prog tyI fnF glo0 drawn 1000000 176 2 (.p [] .z (.p [0,1] .z (.p [] .z (.u [] (.u [0,1,6] (.u [] (.p [] .z (.p [0,1,7] .z (.p [0,1,7] .z (.p [] .z (.p [0,1,9,10] .z (.p [0,1,10] .z .z)))))))))))) = some F176 := by kernel_rfl
theorem h186 : lowO Tryz.prog tyI fnF glo0 drawn 1000000 186 1 (.p [] .z (.p [] .z (.p [0,3] .z (.p [0,3] .z (.p [0,3] .z (.p [] .z (.p [0,3] (.u [] (.u [0,3] (.p [0,3] .z (.u [] (.p [] .z (.p [0,3] .z .z)))))) .z))))))) = some F186 := by kernel_rfl
theorem h195 : lowO Tryz.prog tyI fnF glo0 drawn 1000000 195 4 (.p [] .z (.u [] (.p [] .z (.p [] .z (.p [0,1,2,3,17,33] .z (.p [] (.p [0,1,2,3] (.p [] .z (.p [] .z (.p [] (.p [0,1,2,3] .z .z) .z))) .z) (.p [] .z (.p [] .z (.p [] .z (.p [] .z (.p [] .z (.p [] .z (.p [] .z (.p [] (.p [] .z (.p [] .z (.p [0,1,3,13] .z .z))) .z)))))))))))))) = some F195 := by kernel_rfl
theorem h200 : lowO Tryz.prog tyI fnF glo0 drawn 1000000 200 2 .z = some F200 := by kernel_rfl
theorem h240 : lowO Tryz.prog tyI fnF glo0 drawn 1000000 240 2 (.p [] .z (.p [] .z (.p [] .z (.p [] .z (.p [] (.p [] .z (.u [] (.p [2,3,5,6,12,13] .z (.p [] .z (.p [2,3,5,6,12,19] .z (.p [] .z (.p [] .z (.p [] .z (.p [] .z (.p [] (.p [3,5] .z .z) (.p [] .z (.p [] .z (.p [] .z (.p [] .z (.p [] .z (.p [] .z (.p [] .z (.p [] .z (.p [2,3,5,12,192] .z .z))))))))))))))))))) .z))))) = some F240 := by kernel_rfl
theorem h243 : lowO Tryz.prog tyI fnF glo0 drawn 1000000 243 4 (.p [] .z (.u [] (.u [0,1,2,3,10,11] (.p [] .z (.p [0,1,2,3,10,11] .z (.p [0,1,2,3,10,11] .z .z)))))) = some F243 := by kernel_rfl
theorem h259 : lowO Tryz.prog tyI fnF glo0 drawn 1000000 259 1 (.p [] .z (.p [0,2] .z (.p [] .z (.p [] .z (.p [2,4] .z .z))))) = some F259 := by kernel_rfl
theorem h273 : lowO Tryz.prog tyI fnF glo0 drawn 1000000 273 2 .z = some F273 := by kernel_rfl
theorem h281 : lowO Tryz.prog tyI fnF glo0 drawn 1000000 281 0 .z = some F281 := by kernel_rfl
theorem h290 : lowO Tryz.prog tyI fnF glo0 drawn 1000000 290 2 .z = some F290 := by kernel_rfl
theorem h291 : lowO Tryz.prog tyI fnF glo0 drawn 1000000 291 2 (.p [] .z (.p [] (.p [] .z (.u [] (.u [3,7,8,9] (.p [] .z (.p [3,7,8,9] .z (.p [3,7,8,9] .z .z)))))) .z)) = some F291 := by kernel_rfl
theorem h294 : lowO Tryz.prog tyI fnF glo0 drawn 1000000 294 2 .z = some F294 := by kernel_rfl
theorem h304 : lowO Tryz.prog tyI fnF glo0 drawn 1000000 304 0 .z = some F304 := by kernel_rfl
end Go.Proofs.YtapognhadfncmaaGreatDoor
