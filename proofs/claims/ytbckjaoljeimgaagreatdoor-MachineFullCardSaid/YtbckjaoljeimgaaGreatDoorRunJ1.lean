/- The lifted forms are those of the program: by the kernel (part 1). -/
import Derived.Test.YtbckjaoljeimgaaGreatDoorRunC0
import Derived.KernelRfl
namespace Go.Proofs.YtbckjaoljeimgaaGreatDoor
open Go Go.Ev
set_option maxRecDepth 1000000
set_option maxHeartbeats 40000000
theorem h23 : lowO Tryz.prog tyI fnF glo0 drawn 1000000 23 2 (.p [] .z (.p [] .z (.p [0,5] .z .z))) = some F23 := by kernel_rfl
theorem h30 : lowO Tryz.prog tyI fnF glo0 drawn 1000000 30 3 (.p [] .z (.p [1,3,5,6] (.p [] .z (.u [] (.p [] .z (.p [] .z (.p [] .z (.p [] .z (.p [] .z (.p [] .z (.p [] .z (.p [] .z (.p [] .z (.p [] .z (.p [] .z (.p [] .z (.p [] .z (.p [] .z (.p [1,3,5,6,81] .z .z))))))))))))))))) (.p [3,6] .z .z))) = some F30 := by kernel_rfl
theorem h52 : lowO Tryz.prog tyI fnF glo0 drawn 1000000 52 2 (.p [] .z (.p [] .z (.p [] .z (.p [5,6] .z .z)))) = some F52 := by kernel_rfl
theorem h56 : lowO Tryz.prog tyI fnF glo0 drawn 1000000 56 1 .z = some F56 := by kernel_rfl
theorem h78 : lowO Tryz.prog tyI fnF glo0 drawn 1000000 78 2 .z = some F78 := by kernel_rfl
theorem h79 : lowO Tryz.prog tyI fnF glo0 drawn 1000000 79 1 (.p [] .z (.p [] .z (.p [4] .z .z))) = some F79 := by kernel_rfl
theorem h93 : lowO Tryz.prog tyI fnF glo0 drawn 1000000 93 1 .z = some F93 := by kernel_rfl
theorem h141 : lowO Tryz.prog tyI fnF glo0 drawn 1000000 141 2 (.p [] .z (.p [4] .z .z)) = some F141 := by kernel_rfl
theorem h144 : lowO Tryz.prog tyI fnF glo0 drawn 1000000 144 2 .z = some F144 := by kernel_rfl
theorem h156 : lowO Tryz.prog tyI fnF glo0 drawn 1000000 156 3 (.p [] .z (.p [] .z (.p [0,2,7] .z (.p [0,7] .z .z)))) = some F156 := by kernel_rfl
theorem h172 : lowO Tryz.prog tyI fnF glo0 drawn 1000000 172 2 (.p [] .z (.p [] .z (.p [1,5] .z .z))) = some F172 := by kernel_rfl
theorem h190 : lowO Tryz.prog tyI fnF glo0 drawn 1000000 190 3 (.p [] .z (.p [] (.p [] .z (.u [] (.u [0,2,7] (.p [0,2,7] .z (.p [0,2,7] .z .z))))) .z)) = some F190 := by kernel_rfl
theorem h235 : lowO Tryz.prog tyI fnF glo0 drawn 1000000 235 2 (.p [] .z (.p [1] (.u [] (.u [0,1] (.p [0,1] .z (.u [] (.u [] (.p [] .z (.p [] .z (.p [] .z (.p [] (.p [] .z (.p [0,1,6] .z .z)) (.p [] .z (.p [] (.p [] .z (.p [0,1,7] .z .z)) .z))))))))))) .z)) = some F235 := by kernel_rfl
theorem h249 : lowO Tryz.prog tyI fnF glo0 drawn 1000000 249 1 .z = some F249 := by kernel_rfl
theorem h277 : lowO Tryz.prog tyI fnF glo0 drawn 1000000 277 1 (.p [] .z (.p [] (.p [] .z (.u [] (.p [4] .z .z))) .z)) = some F277 := by kernel_rfl
theorem h299 : lowO Tryz.prog tyI fnF glo0 drawn 1000000 299 2 (.p [] .z (.p [] (.p [] .z (.u [] (.u [0,1,7,8] (.p [] .z (.p [0,1,7,8] .z (.p [0,1,7,8] .z .z)))))) .z)) = some F299 := by kernel_rfl
theorem h306 : lowO Tryz.prog tyI fnF glo0 drawn 1000000 306 1 (.p [] .z (.p [] (.p [] .z (.u [] (.p [4,5] .z (.p [] .z (.p [4,20] .z (.p [] .z (.p [] .z (.p [] .z (.p [] .z (.p [] .z (.p [] .z (.p [] .z (.p [] .z (.p [] .z (.p [4,43] .z (.p [] .z (.p [4,51] .z (.p [] .z (.p [59] .z .z))))))))))))))))))) .z)) = some F306 := by kernel_rfl
end Go.Proofs.YtbckjaoljeimgaaGreatDoor
