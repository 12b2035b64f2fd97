/- BuiltinErrors: the evaluator's runs of it, by the kernel (part 2). -/
import Derived.Test.YtdbhonkahlcdoaaGreatDoorErrsD
import Derived.KernelRfl
namespace Go.Proofs.YtdbhonkahlcdoaaGreatDoor
open Go Go.Ev
set_option maxRecDepth 1000000
set_option maxHeartbeats 40000000
theorem ers4 :
    er 12 true 5 = .ok ∧
    er 13 true 4 = .ok ∧
    er 14 false 2 = .ok ∧
    er 15 true 5 = .ok ∧
    er 16 false 1 = .both .ok .ok ∧
    er 16 false 5 = .ok ∧
    er 2 true 1 = .ok ∧
    er 3 false 3 = .ok ∧
    er 4 false 3 = .ok ∧
    er 6 false 3 = .ok ∧
    er 7 true 4 = .ok ∧
    er 8 false 5 = .ok ∧
    er 9 false 4 = .ok := ⟨
    by kernel_rfl,
    by kernel_rfl,
    by kernel_rfl,
    by kernel_rfl,
    by kernel_rfl,
    by kernel_rfl,
    by kernel_rfl,
    by kernel_rfl,
    by kernel_rfl,
    by kernel_rfl,
    by kernel_rfl,
    by kernel_rfl,
    by kernel_rfl⟩
theorem ers5 :
    er 0 false 4 = .ok ∧
    er 10 false 4 = .ok ∧
    er 13 false 5 = .ok ∧
    er 14 true 2 = .ok ∧
    er 17 false 1 = .ok ∧
    er 1 true 1 = .both .ok .ok ∧
    er 1 false 2 = .ok ∧
    er 3 false 4 = .ok ∧
    er 4 true 3 = .ok ∧
    er 6 true 3 = .ok ∧
    er 7 false 5 = .ok ∧
    er 8 true 5 = .ok ∧
    er 9 true 4 = .ok := ⟨
    by kernel_rfl,
    by kernel_rfl,
    by kernel_rfl,
    by kernel_rfl,
    by kernel_rfl,
    by kernel_rfl,
    by kernel_rfl,
    by kernel_rfl,
    by kernel_rfl,
    by kernel_rfl,
    by kernel_rfl,
    by kernel_rfl,
    by kernel_rfl⟩
end Go.Proofs.YtdbhonkahlcdoaaGreatDoor
