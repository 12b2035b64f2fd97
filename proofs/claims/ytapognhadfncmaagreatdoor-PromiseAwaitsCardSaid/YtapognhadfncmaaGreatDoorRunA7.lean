/- PromiseAwaits: the evaluator's runs of it, by the kernel (part 7). -/
import Derived.Test.YtapognhadfncmaaGreatDoorRunAD
import Derived.KernelRfl
namespace Go.Proofs.YtapognhadfncmaaGreatDoor
open Go Go.Ev
set_option maxRecDepth 1000000
set_option maxHeartbeats 40000000
theorem aws7 :
    aw 0 0 true 5 = .ok ∧
    aw 0 2 false 2 = .ok ∧
    aw 0 3 false 4 = .ok ∧
    aw 0 4 false 3 = .ok ∧
    aw 0 5 false 1 = .both .ok .ok ∧
    aw 0 5 false 3 = .ok ∧
    aw 1 0 false 2 = .ok ∧
    aw 1 0 false 5 = .ok ∧
    aw 1 6 false 3 = .ok ∧
    aw 1 7 false 4 = .ok ∧
    aw 2 3 true 1 = .ok ∧
    aw 3 3 true 5 = .ok ∧
    aw 3 4 true 5 = .ok ∧
    aw 3 5 false 1 = .both .ok .ok := ⟨
    by kernel_rfl,
    by kernel_rfl,
    by kernel_rfl,
    by kernel_rfl,
    by kernel_rfl,
    by kernel_rfl,
    by kernel_rfl,
    by kernel_rfl,
    by kernel_rfl,
    by kernel_rfl,
    by kernel_rfl,
    by kernel_rfl,
    by kernel_rfl,
    by kernel_rfl⟩
end Go.Proofs.YtapognhadfncmaaGreatDoor
