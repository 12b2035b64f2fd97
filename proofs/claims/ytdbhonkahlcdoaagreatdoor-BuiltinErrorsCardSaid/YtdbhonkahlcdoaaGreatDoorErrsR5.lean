/- BuiltinErrors: the evaluator's runs of it, by the kernel (part 5). -/
import Derived.Test.YtdbhonkahlcdoaaGreatDoorErrsD
import Derived.KernelRfl
namespace Go.Proofs.YtdbhonkahlcdoaaGreatDoor
open Go Go.Ev
set_option maxRecDepth 1000000
set_option maxHeartbeats 40000000
theorem ers10 :
    er 0 true 1 = .both .ok .ok ∧
    er 0 true 2 = .ok ∧
    er 10 false 5 = .ok ∧
    er 11 true 2 = .ok ∧
    er 12 true 1 = .ok ∧
    er 14 true 5 = .ok ∧
    er 15 false 2 = .ok ∧
    er 17 true 3 = .ok ∧
    er 1 false 3 = .ok ∧
    er 2 true 2 = .ok ∧
    er 4 true 4 = .ok ∧
    er 5 false 2 = .ok ∧
    er 9 false 5 = .ok := ⟨
    by kernel_rfl,
    by kernel_rfl,
    by kernel_rfl,
    by kernel_rfl,
    by kernel_rfl,
    by kernel_rfl,
    by kernel_rfl,
    by kernel_rfl,
    by kernel_rfl,
    by kernel_rfl,
    by kernel_rfl,
    by kernel_rfl,
    by kernel_rfl⟩
end Go.Proofs.YtdbhonkahlcdoaaGreatDoor
