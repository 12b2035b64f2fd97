/- BuiltinErrors: the evaluator's runs of it, by the kernel (part 7). -/
import Derived.Test.YtdbhonkahlcdoaaGreatDoorErrsD
import Derived.KernelRfl
namespace Go.Proofs.YtdbhonkahlcdoaaGreatDoor
open Go Go.Ev
set_option maxRecDepth 1000000
set_option maxHeartbeats 40000000
theorem ers12 :
    er 11 true 3 = .ok ∧
    er 11 false 1 = .both .ok .ok ∧
    er 11 false 2 = .ok ∧
    er 12 false 3 = .ok ∧
    er 15 false 4 = .ok ∧
    er 17 true 4 = .ok ∧
    er 1 true 3 = .ok ∧
    er 1 false 5 = .ok ∧
    er 2 true 4 = .ok ∧
    er 2 false 4 = .ok ∧
    er 3 true 4 = .ok ∧
    er 5 true 3 = .ok ∧
    er 7 false 1 = .ok := ⟨
    by kernel_rfl,
    by kernel_rfl,
    by kernel_rfl,
    by kernel_rfl,
    by kernel_rfl,
    by kernel_rfl,
    by kernel_rfl,
    by kernel_rfl,
    by kernel_rfl,
    by kernel_rfl,
    by kernel_rfl,
    by kernel_rfl,
    by kernel_rfl⟩
end Go.Proofs.YtdbhonkahlcdoaaGreatDoor
