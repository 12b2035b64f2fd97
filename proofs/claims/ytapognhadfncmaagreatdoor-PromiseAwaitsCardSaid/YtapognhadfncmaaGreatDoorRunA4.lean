/- PromiseAwaits: the evaluator's runs of it, by the kernel (part 4). -/
import Derived.Test.YtapognhadfncmaaGreatDoorRunAD
import Derived.KernelRfl
namespace Go.Proofs.YtapognhadfncmaaGreatDoor
open Go Go.Ev
set_option maxRecDepth 1000000
set_option maxHeartbeats 40000000
theorem aws4 :
    aw 0 7 false 2 = .ok ∧
    aw 1 3 false 3 = .ok ∧
    aw 1 7 false 3 = .ok ∧
    aw 2 1 true 5 = .ok ∧
    aw 2 4 true 4 = .ok ∧
    aw 3 0 true 2 = .ok ∧
    aw 3 0 true 5 = .ok ∧
    aw 3 1 false 5 = .ok ∧
    aw 3 2 true 2 = .ok ∧
    aw 3 3 true 3 = .ok ∧
    aw 3 4 true 4 = .ok ∧
    aw 3 6 false 1 = .both .ok .ok ∧
    aw 3 7 false 2 = .ok := ⟨
    by kernel_rfl,
    by kernel_rfl,
    by kernel_rfl,
    by kernel_rfl,
    by kernel_rfl,
    by kernel_rfl,
    by kernel_rfl,
    by kernel_rfl,
    by kernel_rfl,
    by kernel_rfl,
    by kernel_rfl,
    by kernel_rfl,
    by kernel_rfl⟩
end Go.Proofs.YtapognhadfncmaaGreatDoor
