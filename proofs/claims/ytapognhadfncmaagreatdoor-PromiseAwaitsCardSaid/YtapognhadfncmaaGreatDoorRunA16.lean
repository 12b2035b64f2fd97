/- PromiseAwaits: the evaluator's runs of it, by the kernel (part 16). -/
import Derived.Test.YtapognhadfncmaaGreatDoorRunAD
import Derived.KernelRfl
namespace Go.Proofs.YtapognhadfncmaaGreatDoor
open Go Go.Ev
set_option maxRecDepth 1000000
set_option maxHeartbeats 40000000
theorem aws16 :
    aw 0 1 false 3 = .ok ∧
    aw 0 4 true 5 = .ok ∧
    aw 0 5 true 1 = .ok ∧
    aw 0 6 true 1 = .ok ∧
    aw 0 7 true 5 = .ok ∧
    aw 1 0 true 1 = .ok ∧
    aw 1 0 true 4 = .ok ∧
    aw 1 2 false 5 = .ok ∧
    aw 1 5 true 5 = .ok ∧
    aw 1 6 true 4 = .ok ∧
    aw 2 1 false 2 = .ok ∧
    aw 2 5 true 2 = .ok ∧
    aw 2 7 true 2 = .ok ∧
    aw 3 7 true 4 = .ok := ⟨
    by kernel_rfl,
    by kernel_rfl,
    by kernel_rfl,
    by kernel_rfl,
    by kernel_rfl,
    by kernel_rfl,
    by kernel_rfl,
    by kernel_rfl,
    by kernel_rfl,
    by kernel_rfl,
    by kernel_rfl,
    by kernel_rfl,
    by kernel_rfl,
    by kernel_rfl⟩
end Go.Proofs.YtapognhadfncmaaGreatDoor
