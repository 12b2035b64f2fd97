/- PromiseAwaits: the evaluator's runs of it, by the kernel (part 21). -/
import Derived.Test.YtapognhadfncmaaGreatDoorRunAD
import Derived.KernelRfl
namespace Go.Proofs.YtapognhadfncmaaGreatDoor
open Go Go.Ev
set_option maxRecDepth 1000000
set_option maxHeartbeats 40000000
theorem aws21 :
    aw 0 1 true 2 = .ok ∧
    aw 0 1 false 1 = .both .ok .ok ∧
    aw 0 2 true 2 = .ok ∧
    aw 0 3 true 3 = .ok ∧
    aw 0 4 true 4 = .ok ∧
    aw 0 7 true 2 = .ok ∧
    aw 1 4 false 4 = .ok ∧
    aw 1 5 true 4 = .ok ∧
    aw 1 7 true 3 = .ok ∧
    aw 2 0 false 1 = .ok ∧
    aw 2 0 false 4 = .ok ∧
    aw 2 6 true 4 = .ok ∧
    aw 2 7 false 3 = .ok ∧
    aw 3 2 false 1 = .both .ok .ok := ⟨
    by kernel_rfl,
    by kernel_rfl,
    by kernel_rfl,
    by kernel_rfl,
    by kernel_rfl,
    by kernel_rfl,
    by kernel_rfl,
    by kernel_rfl,
    by kernel_rfl,
    by kernel_rfl,
    by kernel_rfl,
    by kernel_rfl,
    by kernel_rfl,
    by kernel_rfl⟩
end Go.Proofs.YtapognhadfncmaaGreatDoor
