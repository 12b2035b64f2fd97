/- PromiseAwaits: the evaluator's runs of it, by the kernel (part 23). -/
import Derived.Test.YtapognhadfncmaaGreatDoorRunAD
import Derived.KernelRfl
namespace Go.Proofs.YtapognhadfncmaaGreatDoor
open Go Go.Ev
set_option maxRecDepth 1000000
set_option maxHeartbeats 40000000
theorem aws23 :
    aw 0 6 false 1 = .both .ok .ok ∧
    aw 0 6 false 5 = .ok ∧
    aw 0 7 true 3 = .ok ∧
    aw 1 1 true 3 = .ok ∧
    aw 1 2 true 2 = .ok ∧
    aw 1 6 true 5 = .ok ∧
    aw 1 7 true 4 = .ok ∧
    aw 2 2 false 3 = .ok ∧
    aw 2 4 false 5 = .ok ∧
    aw 3 0 false 3 = .ok ∧
    aw 3 1 true 5 = .ok ∧
    aw 3 3 false 1 = .both .ok .ok ∧
    aw 3 3 false 5 = .ok := ⟨
    by kernel_rfl,
    by kernel_rfl,
    by kernel_rfl,
    by kernel_rfl,
    by kernel_rfl,
    by kernel_rfl,
    by kernel_rfl,
    by kernel_rfl,
    by kernel_rfl,
    by kernel_rfl,
    by kernel_rfl,
    by kernel_rfl,
    by kernel_rfl⟩
end Go.Proofs.YtapognhadfncmaaGreatDoor
