/- PromiseAwaits: the evaluator's runs of it, by the kernel (part 11). -/
import Derived.Test.YtapognhadfncmaaGreatDoorRunAD
import Derived.KernelRfl
namespace Go.Proofs.YtapognhadfncmaaGreatDoor
open Go Go.Ev
set_option maxRecDepth 1000000
set_option maxHeartbeats 40000000
theorem aws11 :
    aw 0 4 false 4 = .ok ∧
    aw 0 5 true 5 = .ok ∧
    aw 0 7 false 1 = .both .ok .ok ∧
    aw 0 7 false 5 = .ok ∧
    aw 1 1 false 3 = .ok ∧
    aw 2 3 false 5 = .ok ∧
    aw 2 5 true 1 = .ok ∧
    aw 2 6 false 4 = .ok ∧
    aw 3 0 true 3 = .ok ∧
    aw 3 1 true 3 = .ok ∧
    aw 3 2 false 3 = .ok ∧
    aw 3 5 true 1 = .ok ∧
    aw 3 5 false 2 = .ok := ⟨
    by kernel_rfl,
    by kernel_rfl,
    by kernel_rfl,
    by kernel_rfl,
    by kernel_rfl,
    by kernel_rfl,
    by kernel_rfl,
    by kernel_rfl,
    by kernel_rfl,
    by kernel_rfl,
    by kernel_rfl,
    by kernel_rfl,
    by kernel_rfl⟩
end Go.Proofs.YtapognhadfncmaaGreatDoor
