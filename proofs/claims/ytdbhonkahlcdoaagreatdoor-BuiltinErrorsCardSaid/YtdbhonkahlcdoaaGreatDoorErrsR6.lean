/- BuiltinErrors: the evaluator's runs of it, by the kernel (part 6). -/
import Derived.Test.YtdbhonkahlcdoaaGreatDoorErrsD
import Derived.KernelRfl
namespace Go.Proofs.YtdbhonkahlcdoaaGreatDoor
open Go Go.Ev
set_option maxRecDepth 1000000
set_option maxHeartbeats 40000000
theorem ers11 :
    er 0 true 4 = .ok ∧
    er 13 false 1 = .ok ∧
    er 14 false 3 = .ok ∧
    er 15 false 3 = .ok ∧
    er 17 false 4 = .ok ∧
    er 1 false 4 = .ok ∧
    er 2 false 2 = .ok ∧
    er 3 true 2 = .ok ∧
    er 3 false 1 = .both .ok .ok ∧
    er 4 true 5 = .ok ∧
    er 5 false 4 = .ok ∧
    er 8 false 2 = .ok ∧
    er 9 false 1 = .ok := ⟨
    by kernel_rfl,
    by kernel_rfl,
    by kernel_rfl,
    by kernel_rfl,
    by kernel_rfl,
    by kernel_rfl,
    by kernel_rfl,
    by kernel_rfl,
    by kernel_rfl,
    by kernel_rfl,
    by kernel_rfl,
    by kernel_rfl,
    by kernel_rfl⟩
end Go.Proofs.YtdbhonkahlcdoaaGreatDoor
