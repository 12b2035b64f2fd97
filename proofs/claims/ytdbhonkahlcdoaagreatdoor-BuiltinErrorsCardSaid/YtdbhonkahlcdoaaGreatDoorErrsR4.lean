/- BuiltinErrors: the evaluator's runs of it, by the kernel (part 4). -/
import Derived.Test.YtdbhonkahlcdoaaGreatDoorErrsD
import Derived.KernelRfl
namespace Go.Proofs.YtdbhonkahlcdoaaGreatDoor
open Go Go.Ev
set_option maxRecDepth 1000000
set_option maxHeartbeats 40000000
theorem ers8 :
    er 0 true 5 = .ok ∧
    er 10 true 3 = .ok ∧
    er 10 false 1 = .both .ok .ok ∧
    er 11 true 5 = .ok ∧
    er 13 true 1 = .ok ∧
    er 14 false 4 = .ok ∧
    er 16 true 3 = .ok ∧
    er 17 true 2 = .ok ∧
    er 1 true 2 = .ok ∧
    er 3 true 3 = .ok ∧
    er 5 false 5 = .ok ∧
    er 6 false 5 = .ok ∧
    er 8 false 1 = .ok := ⟨
    by kernel_rfl,
    by kernel_rfl,
    by kernel_rfl,
    by kernel_rfl,
    by kernel_rfl,
    by kernel_rfl,
    by kernel_rfl,
    by kernel_rfl,
    by kernel_rfl,
    by kernel_rfl,
    by kernel_rfl,
    by kernel_rfl,
    by kernel_rfl⟩
theorem ers9 :
    er 11 false 3 = .ok ∧
    er 12 false 1 = .both .ok .ok ∧
    er 16 true 4 = .ok ∧
    er 17 false 3 = .ok ∧
    er 1 true 4 = .ok ∧
    er 2 true 5 = .ok ∧
    er 2 false 3 = .ok ∧
    er 3 true 5 = .ok ∧
    er 3 false 5 = .ok ∧
    er 5 true 2 = .ok ∧
    er 6 true 5 = .ok ∧
    er 7 true 1 = .ok ∧
    er 9 true 5 = .ok := ⟨
    by kernel_rfl,
    by kernel_rfl,
    by kernel_rfl,
    by kernel_rfl,
    by kernel_rfl,
    by kernel_rfl,
    by kernel_rfl,
    by kernel_rfl,
    by kernel_rfl,
    by kernel_rfl,
    by kernel_rfl,
    by kernel_rfl,
    by kernel_rfl⟩
end Go.Proofs.YtdbhonkahlcdoaaGreatDoor
