/- PromiseAwaits: the evaluator's runs of it, by the kernel (part 3). -/
import Derived.Test.YtapognhadfncmaaGreatDoorRunAD
import Derived.KernelRfl
namespace Go.Proofs.YtapognhadfncmaaGreatDoor
open Go Go.Ev
set_option maxRecDepth 1000000
set_option maxHeartbeats 40000000
theorem aws3 :
    aw 0 0 false 2 = .ok ∧
    aw 0 0 false 5 = .ok ∧
    aw 0 3 false 2 = .ok ∧
    aw 0 4 false 2 = .ok ∧
    aw 0 6 false 3 = .ok ∧
    aw 1 3 false 1 = .both .ok .ok ∧
    aw 1 3 false 4 = .ok ∧
    aw 1 4 true 4 = .ok ∧
    aw 1 7 false 1 = .both .ok .ok ∧
    aw 2 5 false 5 = .ok ∧
    aw 3 1 false 3 = .ok ∧
    aw 3 4 true 3 = .ok ∧
    aw 3 5 false 5 = .ok := ⟨
    by kernel_rfl,
    by kernel_rfl,
    by kernel_rfl,
    by kernel_rfl,
    by kernel_rfl,
    by kernel_rfl,
    by kernel_rfl,
    by kernel_rfl,
    by kernel_rfl,
    by kernel_rfl,
    by kernel_rfl,
    by kernel_rfl,
    by kernel_rfl⟩
end Go.Proofs.YtapognhadfncmaaGreatDoor
