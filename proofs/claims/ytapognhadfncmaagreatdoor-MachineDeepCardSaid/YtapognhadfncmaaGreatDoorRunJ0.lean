/- The lifted forms are those of the program: by the kernel (part 0). -/
import Derived.Test.YtapognhadfncmaaGreatDoorRunC0
import Derived.KernelRfl
namespace Go.Proofs.YtapognhadfncmaaGreatDoor
open Go Go.Ev
set_option maxRecDepth 1000000
set_option maxHeartbeats 40000000
theorem h13 : lowO Tryz.prog tyI fnF glo0 drawn 1000000 13 1 .z = some F13 := by kernel_rfl
theorem h15 : lowO Tryz.prog tyI fnF glo0 drawn 1000000 15 3 (.p [] .z (.p [0,1,2,6] .z (.p [0,1,2,6] .z (.p [] .z (.p [] .z (.p [0,2,6,7,8] (.p [] .z (.p [] (.p [6,8] (.p [] .z (.p [] (.p [] .z (.p [0,6,8,9] .z .z)) .z)) .z) .z)) (.p [] .z (.p [] .z (.p [2,6,7,8] .z (.p [2,6,7,8] .z .z)))))))))) = some F15 := by kernel_rfl
theorem h31 : lowO Tryz.prog tyI fnF glo0 drawn 1000000 31 2 (.p [] .z (.p [] .z (.p [] (.p [] .z (.p [0,1,3] .z .z)) .z))) = some F31 := by kernel_rfl
theorem h61 : lowO Tryz.prog tyI fnF glo0 drawn 1000000 61 1 .z = some F61 := by kernel_rfl
end Go.Proofs.YtapognhadfncmaaGreatDoor
