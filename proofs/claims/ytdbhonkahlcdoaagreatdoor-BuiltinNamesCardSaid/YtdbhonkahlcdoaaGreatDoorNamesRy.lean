/- BuiltinNames: the evaluator's runs of it, by the kernel (part y). -/
import Derived.Test.YtdbhonkahlcdoaaGreatDoorNamesD
import Derived.KernelRfl
namespace Go.Proofs.YtdbhonkahlcdoaaGreatDoor
open Go Go.Ev
set_option maxRecDepth 1000000
set_option maxHeartbeats 40000000
theorem names_y :
    nm A2 (.sym .i64 0) ((-9223372036854775808), 9) (2, 999) = .ok ∧
    nm A2 (.sym .i64 0) (85, 9223372036854775807) (2, 999) = .ok ∧
    nm A1 (.sym .i64 0) (10, 37) (2, 999) = .ok ∧
    nm A1 (.sym .i64 0) (40, 48) (2, 999) = .ok ∧
    nm A1 (.sym .i64 0) (50, 58) (2, 999) = .ok ∧
    nm A1 (.sym .i64 0) (60, 84) (2, 999) = .ok ∧
    nm A1 (.int .i64 38) (38, 38) (2, 999) = .ok ∧
    nm A1 (.int .i64 39) (39, 39) (2, 999) = .ok ∧
    nm A1 (.int .i64 49) (49, 49) (2, 999) = .ok ∧
    nm A1 (.int .i64 59) (59, 59) (2, 999) = .ok := ⟨
    by kernel_rfl,
    by kernel_rfl,
    by kernel_rfl,
    by kernel_rfl,
    by kernel_rfl,
    by kernel_rfl,
    by kernel_rfl,
    by kernel_rfl,
    by kernel_rfl,
    by kernel_rfl⟩
end Go.Proofs.YtdbhonkahlcdoaaGreatDoor
