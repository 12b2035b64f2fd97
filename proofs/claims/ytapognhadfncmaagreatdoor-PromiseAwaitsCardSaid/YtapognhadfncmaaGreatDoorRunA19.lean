/- PromiseAwaits: the evaluator's runs of it, by the kernel (part 19). -/
import Derived.Test.YtapognhadfncmaaGreatDoorRunAD
import Derived.KernelRfl
namespace Go.Proofs.YtapognhadfncmaaGreatDoor
open Go Go.Ev
set_option maxRecDepth 1000000
set_option maxHeartbeats 40000000
theorem aws19 :
    aw 0 0 false 3 = .ok ∧
    aw 1 1 false 4 = .ok ∧
    aw 1 5 true 1 = .ok ∧
    aw 1 7 true 2 = .ok ∧
    aw 2 3 false 3 = .ok ∧
    aw 2 5 false 3 = .ok ∧
    aw 2 6 true 2 = .ok ∧
    aw 2 7 false 5 = .ok ∧
    aw 3 1 true 2 = .ok ∧
    aw 3 1 false 1 = .both .ok .ok ∧
    aw 3 2 true 5 = .ok ∧
    aw 3 2 false 2 = .ok ∧
    aw 3 3 false 4 = .ok := ⟨
    by kernel_rfl,
    by kernel_rfl,
    by kernel_rfl,
    by kernel_rfl,
    by kernel_rfl,
    by kernel_rfl,
    by kernel_rfl,
    by kernel_rfl,
    by kernel_rfl,
    by kernel_rfl,
    by kernel_rfl,
    by kernel_rfl,
    by kernel_rfl⟩
end Go.Proofs.YtapognhadfncmaaGreatDoor
