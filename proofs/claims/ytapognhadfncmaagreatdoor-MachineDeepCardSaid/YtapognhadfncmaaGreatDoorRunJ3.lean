/- The lifted forms are those of the program: by the kernel (part 3). -/
import Derived.Test.YtapognhadfncmaaGreatDoorRunC0
import Derived.KernelRfl
namespace Go.Proofs.YtapognhadfncmaaGreatDoor
open Go Go.Ev
set_option maxRecDepth 1000000
set_option maxHeartbeats 40000000
theorem h23 : lowO Tryz.prog tyI fnF glo0 drawn 1000000 23 1 (.p [] .z (.p [] .z (.p [] .z (.p [] (.p [] .z (.u [] (.p [] .z (.p [] .z (.p [] .z (.p [] .z (.p [] .z (.p [] .z (.p [] .z (.p [] .z (.p [] .z (.p [] (.p [0] .z .z) .z)))))))))))) .z)))) = some F23 := by kernel_rfl
theorem h57 : lowO Tryz.prog tyI fnF glo0 drawn 1000000 57 2 (.p [] .z (.p [] .z (.p [] .z (.p [5,6] .z .z)))) = some F57 := by kernel_rfl
theorem h98 : lowO Tryz.prog tyI fnF glo0 drawn 1000000 98 1 (.p [] .z (.p [2] (.p [] .z (.u [] (.p [] .z (.p [] .z (.p [] .z (.p [] .z (.p [] .z (.p [] .z (.p [] .z (.p [] .z (.p [1,2,26] .z .z))))))))))) .z)) = some F98 := by kernel_rfl
theorem h129 : lowO Tryz.prog tyI fnF glo0 drawn 1000000 129 4 (.p [] .z (.p [1,4,6,7,8] (.p [] .z (.u [] (.p [] .z (.p [] .z (.p [] .z (.p [] (.p [4,6,7,8] .z .z) .z)))))) .z)) = some F129 := by kernel_rfl
theorem h175 : lowO Tryz.prog tyI fnF glo0 drawn 1000000 175 3 (.p [] .z (.p [] .z (.p [6] (.p [] .z (.u [] (.p [] .z (.p [] .z (.p [0,4,5,6,12,20] .z (.p [] (.p [0,4,5,6] .z .z) (.p [0,4,5,6,12,42] .z (.p [] .z (.p [0,4,5,6,12,52] .z (.p [] .z (.p [0,4,5,6,62] .z .z))))))))))) .z))) = some F175 := by kernel_rfl
end Go.Proofs.YtapognhadfncmaaGreatDoor
