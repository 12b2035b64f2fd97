/- PromiseAwaits: the evaluator's runs of it, by the kernel (part 14). -/
import Derived.Test.YtapognhadfncmaaGreatDoorRunAD
import Derived.KernelRfl
namespace Go.Proofs.YtapognhadfncmaaGreatDoor
open Go Go.Ev
set_option maxRecDepth 1000000
set_option maxHeartbeats 40000000
theorem aws14 :
    aw 0 2 true 1 = .ok ∧
    aw 0 6 true 3 = .ok ∧
    aw 1 0 true 2 = .ok ∧
    aw 1 1 false 2 = .ok ∧
    aw 1 2 true 3 = .ok ∧
    aw 1 3 true 3 = .ok ∧
    aw 1 6 true 1 = .ok ∧
    aw 2 2 false 5 = .ok ∧
    aw 2 4 false 4 = .ok ∧
    aw 2 5 true 4 = .ok ∧
    aw 2 7 true 4 = .ok ∧
    aw 3 4 false 5 = .ok ∧
    aw 3 7 true 2 = .ok := ⟨
    by kernel_rfl,
    by kernel_rfl,
    by kernel_rfl,
    by kernel_rfl,
    by kernel_rfl,
    by kernel_rfl,
    by kernel_rfl,
    by kernel_rfl,
    by kernel_rfl,
    by kernel_rfl,
    by kernel_rfl,
    by kernel_rfl,
    by kernel_rfl⟩
end Go.Proofs.YtapognhadfncmaaGreatDoor
