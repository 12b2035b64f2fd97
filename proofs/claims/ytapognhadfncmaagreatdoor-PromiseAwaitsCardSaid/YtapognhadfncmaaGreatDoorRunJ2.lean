/- The lifted forms are those of the program: by the kernel (part 2). -/
import Derived.Test.YtapognhadfncmaaGreatDoorRunC0
import Derived.KernelRfl
namespace Go.Proofs.YtapognhadfncmaaGreatDoor
open Go Go.Ev
set_option maxRecDepth 1000000
set_option maxHeartbeats 40000000
theorem h15 : lowO Tryz.prog tyI fnF glo0 drawn 1000000 15 3 (.p [] .z (.p [0,1,2,6] .z (.p [0,1,2,6] .z (.p [] .z (.p [] .z (.p [0,2,6,7,8] (.p [] .z (.p [] (.p [6,8] (.p [] .z (.p [] (.p [] .z (.p [0,6,8,9] .z .z)) .z)) .z) .z)) (.p [] .z (.p [] .z (.p [2,6,7,8] .z (.p [2,6,7,8] .z .z)))))))))) = some F15 := by kernel_rfl
theorem h25 : lowO Tryz.prog tyI fnF glo0 drawn 1000000 25 2 .z = some F25 := by kernel_rfl
theorem h27 : lowO Tryz.prog tyI fnF glo0 drawn 1000000 27 2 .z = some F27 := by kernel_rfl
theorem h31 : lowO Tryz.prog tyI fnF glo0 drawn 1000000 31 2 (.p [] .z (.p [] .z (.p [] (.p [] .z (.p [0,1,3] .z .z)) .z))) = some F31 := by kernel_rfl
theorem h38 : lowO Tryz.prog tyI fnF glo0 drawn 1000000 38 4 (.p [] .z (.p [] .z (.p [8] .z .z))) = some F38 := by kernel_rfl
theorem h49 : lowO Tryz.prog tyI fnF glo0 drawn 1000000 49 2 .z = some F49 := by kernel_rfl
theorem h57 : lowO Tryz.prog tyI fnF glo0 drawn 1000000 57 2 (.p [] .z (.p [] .z (.p [] .z (.p [5,6] .z .z)))) = some F57 := by kernel_rfl
theorem h109 : lowO Tryz.prog tyI fnF glo0 drawn 1000000 109 2 (.p [] .z (.p [] .z (.p [5] .z .z))) = some F109 := by kernel_rfl
theorem h116 : lowO Tryz.prog tyI fnF glo0 drawn 1000000 116 2 .z = some F116 := by kernel_rfl
theorem h118 : lowO Tryz.prog tyI fnF glo0 drawn 1000000 118 2 (.p [] .z (.p [3,4] .z .z)) = some F118 := by kernel_rfl
theorem h141 : lowO Tryz.prog tyI fnF glo0 drawn 1000000 141 2 (.p [] .z (.p [1,2] .z (.p [] (.p [] .z (.u [] (.u [1,10,11,12] (.p [] .z (.p [1,10,11,12] .z (.p [1,10,11,12] .z .z)))))) .z))) = some F141 := by kernel_rfl
theorem h151 : lowO Tryz.prog tyI fnF glo0 drawn 1000000 151 1 (.p [] .z (.p [0,2] .z (.p [0,2] (.p [] .z (.p [] (.p [0,2] .z .z) .z)) (.p [] .z (.p [] .z (.p [0,2,3,4] .z (.p [] .z (.p [0,2,3,5] .z (.p [0,2,3,5] .z .z))))))))) = some F151 := by kernel_rfl
theorem h159 : lowO Tryz.prog tyI fnF glo0 drawn 1000000 159 2 (.p [] .z (.u [] (.p [] .z (.p [] .z (.p [] .z (.p [] .z (.p [] .z (.p [] .z (.p [] .z (.p [] .z (.p [] .z (.p [] .z (.p [] .z (.p [] .z (.p [] .z (.p [] .z (.p [] .z (.p [] .z (.p [] .z (.p [] (.p [] .z (.p [] .z (.u [] (.u [0,1,67,68] (.p [] .z (.p [0,1,67,68] .z (.p [0,1,67,68] .z .z))))))) .z)))))))))))))))))))) = some F159 := by kernel_rfl
theorem h188 : lowO Tryz.prog tyI fnF glo0 drawn 1000000 188 1 (.p [] .z (.p [] .z (.p [0,2,3] .z .z))) = some F188 := by kernel_rfl
theorem h192 : lowO Tryz.prog tyI fnF glo0 drawn 1000000 192 1 (.p [] .z (.p [] .z (.p [3] (.p [] .z (.u [] (.u [3,8,9,10] (.p [] .z (.p [3,8,9,10] .z (.p [3,8,9,10] (.u [] (.p [] .z (.p [] .z (.u [] (.p [3,5,8,9,10,15,16] .z (.p [] (.p [] .z (.u [] (.u [3,8,9,10,20,21,22] (.p [] .z (.p [3,8,9,10,20,21,22] .z (.p [3,8,9,10,20,21,22] .z .z)))))) .z)))))) .z)))))) .z))) = some F192 := by kernel_rfl
theorem h193 : lowO Tryz.prog tyI fnF glo0 drawn 1000000 193 4 (.p [1,2,3] .z .z) = some F193 := by kernel_rfl
theorem h205 : lowO Tryz.prog tyI fnF glo0 drawn 1000000 205 2 .z = some F205 := by kernel_rfl
theorem h218 : lowO Tryz.prog tyI fnF glo0 drawn 1000000 218 3 (.p [] .z (.p [] .z (.p [2,3,4,7] .z (.p [4] .z .z)))) = some F218 := by kernel_rfl
theorem h236 : lowO Tryz.prog tyI fnF glo0 drawn 1000000 236 2 (.p [] .z (.p [] .z (.p [] .z (.p [0,1,4,7] (.u [] (.p [] .z (.p [] (.p [] .z (.p [0,1,4,7,9] (.u [] (.u [0,1,4,7,9] (.p [0,1,4,7,9] .z .z))) (.p [] .z (.p [4,7,9] .z .z)))) (.p [] .z (.p [] (.p [] .z (.p [0,1,4,7,10] .z .z)) (.p [] .z (.p [] (.p [] .z (.p [4,7,12,13] .z .z)) .z))))))) (.p [] .z (.p [1,4,7] .z .z)))))) = some F236 := by kernel_rfl
theorem h242 : lowO Tryz.prog tyI fnF glo0 drawn 1000000 242 4 (.p [] .z (.p [0,1] (.p [] .z (.u [] (.u [0,1,3,9] (.p [0,1,3,9] .z (.p [0,1,3,9] (.u [] (.p [] .z (.p [0,1,3,9,10] .z (.p [0,1,10] .z .z)))) .z))))) .z)) = some F242 := by kernel_rfl
theorem h311 : lowO Tryz.prog tyI fnF glo0 drawn 1000000 311 2 .z = some F311 := by kernel_rfl
theorem h312 : lowO Tryz.prog tyI fnF glo0 drawn 1000000 312 2 .z = some F312 := by kernel_rfl
theorem h316 : lowO Tryz.prog tyI fnF glo0 drawn 1000000 316 1 (.p [] .z (.p [] .z (.p [] .z (.p [0,2,3,4] .z (.p [] .z (.p [0,2,3,5] .z (.p [0,2,3,5] .z .z))))))) = some F316 := by kernel_rfl
theorem h319 : lowO Tryz.prog tyI fnF glo0 drawn 1000000 319 2 .z = some F319 := by kernel_rfl
end Go.Proofs.YtapognhadfncmaaGreatDoor
