/- The lifted forms are those of the program: by the kernel (part 1). -/
import Derived.Test.YtapognhadfncmaaGreatDoorRunC0
import Derived.KernelRfl
namespace Go.Proofs.YtapognhadfncmaaGreatDoor
open Go Go.Ev
set_option maxRecDepth 1000000
set_option maxHeartbeats 40000000
theorem h25 : lowO Tryz.prog tyI fnF glo0 drawn 1000000 25 2 .z = some F25 := by kernel_rfl
theorem h29 : lowO Tryz.prog tyI fnF glo0 drawn 1000000 29 1 .z = some F29 := by kernel_rfl
theorem h62 : lowO Tryz.prog tyI fnF glo0 drawn 1000000 62 3 (.p [] .z (.p [3,5,6] .z .z)) = some F62 := by kernel_rfl
theorem h72 : lowO Tryz.prog tyI fnF glo0 drawn 1000000 72 3 (.p [] .z (.p [] .z (.u [] (.p [] .z (.p [] .z (.p [] .z (.p [] .z (.p [] .z (.p [] .z (.p [] .z (.p [] .z (.p [] .z (.p [] (.p [] .z (.p [] .z (.p [3,9,10] .z (.p [3,9,10] .z .z)))) (.p [] .z (.p [] .z (.p [] .z (.p [] (.p [] .z (.p [3,5,11] .z .z)) .z))))))))))))))))) = some F72 := by kernel_rfl
theorem h110 : lowO Tryz.prog tyI fnF glo0 drawn 1000000 110 2 (.p [] .z (.p [2,3,4] .z (.p [] .z (.p [3,4,5] .z .z)))) = some F110 := by kernel_rfl
theorem h116 : lowO Tryz.prog tyI fnF glo0 drawn 1000000 116 2 .z = some F116 := by kernel_rfl
end Go.Proofs.YtapognhadfncmaaGreatDoor
