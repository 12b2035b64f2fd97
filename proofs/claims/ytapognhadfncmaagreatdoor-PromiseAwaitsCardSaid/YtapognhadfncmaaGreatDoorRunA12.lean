/- PromiseAwaits: the evaluator's runs of it, by the kernel (part 12). -/
import Derived.Test.YtapognhadfncmaaGreatDoorRunAD
import Derived.KernelRfl
namespace Go.Proofs.YtapognhadfncmaaGreatDoor
open Go Go.Ev
set_option maxRecDepth 1000000
set_option maxHeartbeats 40000000
theorem aws12 :
    aw 0 0 true 1 = .ok ∧
    aw 0 0 true 4 = .ok ∧
    aw 0 1 false 2 = .ok ∧
    aw 1 2 false 3 = .ok ∧
    aw 1 3 true 5 = .ok ∧
    aw 1 4 false 5 = .ok ∧
    aw 1 7 true 1 = .ok ∧
    aw 2 1 false 4 = .ok ∧
    aw 2 2 true 3 = .ok ∧
    aw 2 3 false 1 = .both .ok .ok ∧
    aw 2 6 false 5 = .ok ∧
    aw 3 4 false 2 = .ok ∧
    aw 3 5 true 2 = .ok ∧
    aw 3 5 false 3 = .ok := ⟨
    by kernel_rfl,
    by kernel_rfl,
    by kernel_rfl,
    by kernel_rfl,
    by kernel_rfl,
    by kernel_rfl,
    by kernel_rfl,
    by kernel_rfl,
    by kernel_rfl,
    by kernel_rfl,
    by kernel_rfl,
    by kernel_rfl,
    by kernel_rfl,
    by kernel_rfl⟩
end Go.Proofs.YtapognhadfncmaaGreatDoor
