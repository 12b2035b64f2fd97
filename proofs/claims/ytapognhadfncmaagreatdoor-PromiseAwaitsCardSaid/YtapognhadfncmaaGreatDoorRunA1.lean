/- PromiseAwaits: the evaluator's runs of it, by the kernel (part 1). -/
import Derived.Test.YtapognhadfncmaaGreatDoorRunAD
import Derived.KernelRfl
namespace Go.Proofs.YtapognhadfncmaaGreatDoor
open Go Go.Ev
set_option maxRecDepth 1000000
set_option maxHeartbeats 40000000
theorem aws1 :
    aw 1 1 true 5 = .ok ∧
    aw 1 4 true 2 = .ok ∧
    aw 1 7 true 5 = .ok ∧
    aw 2 0 true 1 = .ok ∧
    aw 2 0 true 4 = .ok ∧
    aw 2 1 true 2 = .ok ∧
    aw 2 1 false 1 = .both .ok .ok ∧
    aw 2 2 true 5 = .ok ∧
    aw 2 4 true 3 = .ok ∧
    aw 2 6 false 1 = .both .ok .ok ∧
    aw 3 2 false 4 = .ok ∧
    aw 3 3 true 1 = .ok ∧
    aw 3 6 false 2 = .ok := ⟨
    by kernel_rfl,
    by kernel_rfl,
    by kernel_rfl,
    by kernel_rfl,
    by kernel_rfl,
    by kernel_rfl,
    by kernel_rfl,
    by kernel_rfl,
    by kernel_rfl,
    by kernel_rfl,
    by kernel_rfl,
    by kernel_rfl,
    by kernel_rfl⟩
end Go.Proofs.YtapognhadfncmaaGreatDoor
