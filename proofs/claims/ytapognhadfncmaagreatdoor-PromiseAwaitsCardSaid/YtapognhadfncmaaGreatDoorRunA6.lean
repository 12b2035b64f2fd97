/- PromiseAwaits: the evaluator's runs of it, by the kernel (part 6). -/
import Derived.Test.YtapognhadfncmaaGreatDoorRunAD
import Derived.KernelRfl
namespace Go.Proofs.YtapognhadfncmaaGreatDoor
open Go Go.Ev
set_option maxRecDepth 1000000
set_option maxHeartbeats 40000000
theorem aws6 :
    aw 0 3 false 3 = .ok ∧
    aw 0 4 false 1 = .both .ok .ok ∧
    aw 0 5 false 2 = .ok ∧
    aw 0 7 false 3 = .ok ∧
    aw 1 0 true 5 = .ok ∧
    aw 1 5 false 2 = .ok ∧
    aw 1 6 false 1 = .both .ok .ok ∧
    aw 1 6 false 2 = .ok ∧
    aw 2 0 false 2 = .ok ∧
    aw 2 0 false 5 = .ok ∧
    aw 3 1 true 1 = .ok ∧
    aw 3 2 true 3 = .ok ∧
    aw 3 3 true 4 = .ok ∧
    aw 3 7 false 4 = .ok := ⟨
    by kernel_rfl,
    by kernel_rfl,
    by kernel_rfl,
    by kernel_rfl,
    by kernel_rfl,
    by kernel_rfl,
    by kernel_rfl,
    by kernel_rfl,
    by kernel_rfl,
    by kernel_rfl,
    by kernel_rfl,
    by kernel_rfl,
    by kernel_rfl,
    by kernel_rfl⟩
end Go.Proofs.YtapognhadfncmaaGreatDoor
