/- BuiltinErrors: the evaluator's runs of it, by the kernel (part 1). -/
import Derived.Test.YtdbhonkahlcdoaaGreatDoorErrsD
import Derived.KernelRfl
namespace Go.Proofs.YtdbhonkahlcdoaaGreatDoor
open Go Go.Ev
set_option maxRecDepth 1000000
set_option maxHeartbeats 40000000
theorem ers2 :
    er 0 false 1 = .both .ok (.both .ok .ok) ∧
    er 10 true 5 = .ok ∧
    er 11 false 5 = .ok ∧
    er 12 true 3 = .ok ∧
    er 13 false 3 = .ok ∧
    er 15 true 2 = .ok ∧
    er 16 false 2 = .ok ∧
    er 4 true 1 = .ok ∧
    er 6 true 1 = .ok ∧
    er 7 false 3 = .ok ∧
    er 8 true 3 = .ok ∧
    er 9 true 2 = .ok := ⟨
    by kernel_rfl,
    by kernel_rfl,
    by kernel_rfl,
    by kernel_rfl,
    by kernel_rfl,
    by kernel_rfl,
    by kernel_rfl,
    by kernel_rfl,
    by kernel_rfl,
    by kernel_rfl,
    by kernel_rfl,
    by kernel_rfl⟩
theorem ers3 :
    er 0 false 3 = .ok ∧
    er 11 true 1 = .ok ∧
    er 12 true 4 = .ok ∧
    er 13 false 4 = .ok ∧
    er 14 true 1 = .ok ∧
    er 15 true 4 = .ok ∧
    er 15 false 1 = .both .ok .ok ∧
    er 16 false 4 = .ok ∧
    er 4 true 2 = .ok ∧
    er 6 true 2 = .ok ∧
    er 7 false 4 = .ok ∧
    er 8 true 4 = .ok ∧
    er 9 true 3 = .ok := ⟨
    by kernel_rfl,
    by kernel_rfl,
    by kernel_rfl,
    by kernel_rfl,
    by kernel_rfl,
    by kernel_rfl,
    by kernel_rfl,
    by kernel_rfl,
    by kernel_rfl,
    by kernel_rfl,
    by kernel_rfl,
    by kernel_rfl,
    by kernel_rfl⟩
end Go.Proofs.YtdbhonkahlcdoaaGreatDoor
