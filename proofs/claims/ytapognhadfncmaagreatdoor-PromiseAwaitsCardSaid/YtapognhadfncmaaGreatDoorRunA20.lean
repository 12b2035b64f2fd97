/- PromiseAwaits: the evaluator's runs of it, by the kernel (part 20). -/
import Derived.Test.YtapognhadfncmaaGreatDoorRunAD
import Derived.KernelRfl
namespace Go.Proofs.YtapognhadfncmaaGreatDoor
open Go Go.Ev
set_option maxRecDepth 1000000
set_option maxHeartbeats 40000000
theorem aws20 :
    aw 0 0 true 2 = .ok ∧
    aw 0 2 false 4 = .ok ∧
    aw 0 7 true 4 = .ok ∧
    aw 1 1 true 4 = .ok ∧
    aw 1 1 false 1 = .both .ok .ok ∧
    aw 1 2 true 4 = .ok ∧
    aw 1 3 true 2 = .ok ∧
    aw 1 5 false 5 = .ok ∧
    aw 1 7 false 2 = .ok ∧
    aw 2 2 false 4 = .ok ∧
    aw 2 6 true 3 = .ok ∧
    aw 2 7 false 4 = .ok ∧
    aw 3 6 true 4 = .ok := ⟨
    by kernel_rfl,
    by kernel_rfl,
    by kernel_rfl,
    by kernel_rfl,
    by kernel_rfl,
    by kernel_rfl,
    by kernel_rfl,
    by kernel_rfl,
    by kernel_rfl,
    by kernel_rfl,
    by kernel_rfl,
    by kernel_rfl,
    by kernel_rfl⟩
end Go.Proofs.YtapognhadfncmaaGreatDoor
