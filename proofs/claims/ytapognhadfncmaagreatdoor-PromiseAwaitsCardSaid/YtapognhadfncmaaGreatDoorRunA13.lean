/- PromiseAwaits: the evaluator's runs of it, by the kernel (part 13). -/
import Derived.Test.YtapognhadfncmaaGreatDoorRunAD
import Derived.KernelRfl
namespace Go.Proofs.YtapognhadfncmaaGreatDoor
open Go Go.Ev
set_option maxRecDepth 1000000
set_option maxHeartbeats 40000000
theorem aws13 :
    aw 0 1 true 5 = .ok ∧
    aw 0 3 false 1 = .both .ok .ok ∧
    aw 0 4 false 5 = .ok ∧
    aw 0 6 true 5 = .ok ∧
    aw 1 0 true 3 = .ok ∧
    aw 1 2 true 5 = .ok ∧
    aw 2 1 true 1 = .ok ∧
    aw 2 3 true 5 = .ok ∧
    aw 2 7 true 5 = .ok ∧
    aw 3 3 false 3 = .ok ∧
    aw 3 5 true 4 = .ok ∧
    aw 3 6 true 1 = .ok ∧
    aw 3 7 true 1 = .ok := ⟨
    by kernel_rfl,
    by kernel_rfl,
    by kernel_rfl,
    by kernel_rfl,
    by kernel_rfl,
    by kernel_rfl,
    by kernel_rfl,
    by kernel_rfl,
    by kernel_rfl,
    by kernel_rfl,
    by kernel_rfl,
    by kernel_rfl,
    by kernel_rfl⟩
end Go.Proofs.YtapognhadfncmaaGreatDoor
