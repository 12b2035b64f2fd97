/- BuiltinErrors: the evaluator's runs of it, by the kernel (part 0). -/
import Derived.Test.YtdbhonkahlcdoaaGreatDoorErrsD
import Derived.KernelRfl
namespace Go.Proofs.YtdbhonkahlcdoaaGreatDoor
open Go Go.Ev
set_option maxRecDepth 1000000
set_option maxHeartbeats 40000000
theorem ers0 :
    er 10 true 4 = .ok ∧
    er 10 false 2 = .ok ∧
    er 13 false 2 = .ok ∧
    er 14 true 4 = .ok ∧
    er 15 false 5 = .ok ∧
    er 16 true 5 = .ok ∧
    er 1 true 5 = .ok ∧
    er 1 false 1 = .both .ok (.both .ok .ok) ∧
    er 5 true 4 = .ok ∧
    er 7 false 2 = .ok ∧
    er 8 true 2 = .ok ∧
    er 9 true 1 = .ok := ⟨
    by kernel_rfl,
    by kernel_rfl,
    by kernel_rfl,
    by kernel_rfl,
    by kernel_rfl,
    by kernel_rfl,
    by kernel_rfl,
    by kernel_rfl,
    by kernel_rfl,
    by kernel_rfl,
    by kernel_rfl,
    by kernel_rfl⟩
theorem ers1 :
    er 11 false 4 = .ok ∧
    er 12 true 2 = .ok ∧
    er 13 true 2 = .ok ∧
    er 15 true 1 = .ok ∧
    er 2 false 5 = .ok ∧
    er 4 false 1 = .ok ∧
    er 5 true 5 = .ok ∧
    er 5 false 1 = .both .ok (.both .ok .ok) ∧
    er 6 false 1 = .ok ∧
    er 7 true 2 = .ok ∧
    er 8 false 3 = .ok ∧
    er 9 false 2 = .ok := ⟨
    by kernel_rfl,
    by kernel_rfl,
    by kernel_rfl,
    by kernel_rfl,
    by kernel_rfl,
    by kernel_rfl,
    by kernel_rfl,
    by kernel_rfl,
    by kernel_rfl,
    by kernel_rfl,
    by kernel_rfl,
    by kernel_rfl⟩
end Go.Proofs.YtdbhonkahlcdoaaGreatDoor
