/- BuiltinNames: the evaluator's runs of it, by the kernel (part x). -/
import Derived.Test.YtdbhonkahlcdoaaGreatDoorNamesD
import Derived.KernelRfl
namespace Go.Proofs.YtdbhonkahlcdoaaGreatDoor
open Go Go.Ev
set_option maxRecDepth 1000000
set_option maxHeartbeats 40000000
theorem names_x :
    nm A2 (.sym .i64 0) ((-9223372036854775808), 9) ((-9223372036854775808), 1) = .both .ok .ok ∧
    nm A2 (.sym .i64 0) (85, 9223372036854775807) ((-9223372036854775808), 1) = .both .ok .ok ∧
    nm A1 (.sym .i64 0) (10, 37) ((-9223372036854775808), 1) = .both .ok .ok ∧
    nm A1 (.sym .i64 0) (40, 48) ((-9223372036854775808), 1) = .both .ok .ok ∧
    nm A1 (.sym .i64 0) (50, 58) ((-9223372036854775808), 1) = .both .ok .ok ∧
    nm A1 (.sym .i64 0) (60, 84) ((-9223372036854775808), 1) = .both .ok .ok ∧
    nm A1 (.int .i64 38) (38, 38) ((-9223372036854775808), 1) = .both .ok .ok ∧
    nm A1 (.int .i64 39) (39, 39) ((-9223372036854775808), 1) = .both .ok .ok ∧
    nm A1 (.int .i64 49) (49, 49) ((-9223372036854775808), 1) = .both .ok .ok ∧
    nm A1 (.int .i64 59) (59, 59) ((-9223372036854775808), 1) = .both .ok .ok := ⟨
    by kernel_rfl,
    by kernel_rfl,
    by kernel_rfl,
    by kernel_rfl,
    by kernel_rfl,
    by kernel_rfl,
    by kernel_rfl,
    by kernel_rfl,
    by kernel_rfl,
    by kernel_rfl⟩
end Go.Proofs.YtdbhonkahlcdoaaGreatDoor
