/- The lifted forms are those of the program: by the kernel (part 3). -/
import Derived.Test.YtbckjaoljeimgaaGreatDoorRunC0
import Derived.KernelRfl
namespace Go.Proofs.YtbckjaoljeimgaaGreatDoor
open Go Go.Ev
set_option maxRecDepth 1000000
set_option maxHeartbeats 40000000
theorem h17 : lowO Tryz.prog tyI fnF glo0 drawn 1000000 17 1 (.p [] .z (.p [] .z (.p [2,4] .z .z))) = some F17 := by kernel_rfl
theorem h18 : lowO Tryz.prog tyI fnF glo0 drawn 1000000 18 5 (.p [] .z (.p [0,1,7,8,9,10] .z (.p [] .z (.p [0,1,7,8,9,10,12] .z .z)))) = some F18 := by kernel_rfl
theorem h30 : lowO Tryz.prog tyI fnF glo0 drawn 1000000 30 3 (.p [] .z (.p [1,3,5,6] (.p [] .z (.u [] (.p [] .z (.p [] .z (.p [] .z (.p [] .z (.p [] .z (.p [] .z (.p [] .z (.p [] .z (.p [] .z (.p [] .z (.p [] .z (.p [] .z (.p [] .z (.p [] .z (.p [1,3,5,6,81] .z .z))))))))))))))))) (.p [3,6] .z .z))) = some F30 := by kernel_rfl
theorem h35 : lowO Tryz.prog tyI fnF glo0 drawn 1000000 35 1 .z = some F35 := by kernel_rfl
theorem h44 : lowO Tryz.prog tyI fnF glo0 drawn 1000000 44 5 (.p [] .z (.p [] .z (.p [] .z (.p [] .z (.p [] .z (.u [] (.u [0,1,3,9,10,11] (.p [0,1,3,9,10,11] .z (.p [0,1,3,9,10,11] .z .z))))))))) = some F44 := by kernel_rfl
theorem h53 : lowO Tryz.prog tyI fnF glo0 drawn 1000000 53 6 (.p [] .z (.p [3,4,5,6,7,8] .z (.p [] .z (.p [3,4,5,6,7,8,12] .z (.p [3,4,5,6,7,8,12] .z (.p [] .z (.u [] (.p [] .z (.p [] .z (.p [3,4,5,6,7,8,12,119] .z .z)))))))))) = some F53 := by kernel_rfl
theorem h57 : lowO Tryz.prog tyI fnF glo0 drawn 1000000 57 3 (.p [] .z (.p [3,5,6] .z .z)) = some F57 := by kernel_rfl
theorem h73 : lowO Tryz.prog tyI fnF glo0 drawn 1000000 73 1 .z = some F73 := by kernel_rfl
theorem h77 : lowO Tryz.prog tyI fnF glo0 drawn 1000000 77 5 (.p [] .z (.p [0,1,2,3,9] .z (.p [0,1,2,3,9] .z (.p [] .z (.p [] (.p [] .z (.u [] (.p [] .z (.p [] .z (.p [] .z (.p [] (.p [] .z (.p [] .z (.p [] (.p [] .z (.p [1,3,11,12,13] .z .z)) .z))) .z)))))) .z))))) = some F77 := by kernel_rfl
theorem h82 : lowO Tryz.prog tyI fnF glo0 drawn 1000000 82 1 (.p [] .z (.p [2] (.p [] .z (.u [] (.p [] .z (.p [] .z (.p [] .z (.p [] .z (.p [] .z (.p [] .z (.p [] .z (.p [] .z (.p [1,2,26] .z .z))))))))))) .z)) = some F82 := by kernel_rfl
theorem h83 : lowO Tryz.prog tyI fnF glo0 drawn 1000000 83 2 .z = some F83 := by kernel_rfl
theorem h104 : lowO Tryz.prog tyI fnF glo0 drawn 1000000 104 1 (.p [] .z (.p [] (.p [] .z (.u [] (.p [1,4,5] .z .z))) .z)) = some F104 := by kernel_rfl
theorem h105 : lowO Tryz.prog tyI fnF glo0 drawn 1000000 105 2 .z = some F105 := by kernel_rfl
theorem h117 : lowO Tryz.prog tyI fnF glo0 drawn 1000000 117 3 (.p [] .z (.p [3,4,6] (.p [] .z (.u [] (.p [] .z (.p [] .z (.p [] .z (.p [] .z (.p [3,4,6,15] .z .z))))))) .z)) = some F117 := by kernel_rfl
theorem h129 : lowO Tryz.prog tyI fnF glo0 drawn 1000000 129 4 (.p [] .z (.p [0,1,2,3] .z .z)) = some F129 := by kernel_rfl
theorem h172 : lowO Tryz.prog tyI fnF glo0 drawn 1000000 172 2 (.p [] .z (.p [] .z (.p [1,5] .z .z))) = some F172 := by kernel_rfl
end Go.Proofs.YtbckjaoljeimgaaGreatDoor
