/- The lifted forms are those of the program: by the kernel (part 2). -/
import Derived.Test.YtapognhadfncmaaGreatDoorRunC0
import Derived.KernelRfl
namespace Go.Proofs.YtapognhadfncmaaGreatDoor
open Go Go.Ev
set_option maxRecDepth 1000000
set_option maxHeartbeats 40000000
theorem h10 : lowO Tryz.prog tyI fnF glo0 drawn 1000000 10 1 .z = some F10 := by kernel_rfl
theorem h30 : lowO Tryz.prog tyI fnF glo0 drawn 1000000 30 1 .z = some F30 := by kernel_rfl
theorem h35 : lowO Tryz.prog tyI fnF glo0 drawn 1000000 35 3 (.p [] .z (.p [1,3,5,6] (.p [] .z (.u [] (.p [] .z (.p [] .z (.p [] .z (.p [] .z (.p [] .z (.p [] .z (.p [] .z (.p [] .z (.p [] .z (.p [] .z (.p [] .z (.p [] .z (.p [] .z (.p [] .z (.p [1,3,5,6,81] .z .z))))))))))))))))) (.p [3,6] .z .z))) = some F35 := by kernel_rfl
theorem h127 : lowO Tryz.prog tyI fnF glo0 drawn 1000000 127 3 (.p [] .z (.p [3,4,6] (.p [] .z (.u [] (.p [] .z (.p [] .z (.p [] .z (.p [] .z (.p [3,4,6,15] .z .z))))))) .z)) = some F127 := by kernel_rfl
theorem h231 : lowO Tryz.prog tyI fnF glo0 drawn 1000000 231 2 (.p [] .z (.p [2,3,4] .z (.p [2,3,4] .z (.p [] .z (.p [] .z (.p [4,6,8] .z (.p [4,6,8] .z .z))))))) = some F231 := by kernel_rfl
end Go.Proofs.YtapognhadfncmaaGreatDoor
