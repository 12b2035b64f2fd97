/- BuiltinNames: the evaluator's runs of it, by the kernel (part z). -/
import Derived.Test.YtdbhonkahlcdoaaGreatDoorNamesD
import Derived.KernelRfl
namespace Go.Proofs.YtdbhonkahlcdoaaGreatDoor
open Go Go.Ev
set_option maxRecDepth 1000000
set_option maxHeartbeats 40000000
theorem names_z :
    nm A2 (.sym .i64 0) ((-9223372036854775808), 9) (1000, 9223372036854775807) = .ok ∧
    nm A2 (.sym .i64 0) (85, 9223372036854775807) (1000, 9223372036854775807) = .ok ∧
    nm A1 (.sym .i64 0) (10, 37) (1000, 9223372036854775807) = .ok ∧
    nm A1 (.sym .i64 0) (40, 48) (1000, 9223372036854775807) = .ok ∧
    nm A1 (.sym .i64 0) (50, 58) (1000, 9223372036854775807) = .ok ∧
    nm A1 (.sym .i64 0) (60, 84) (1000, 9223372036854775807) = .ok ∧
    nm A1 (.int .i64 38) (38, 38) (1000, 9223372036854775807) = .ok ∧
    nm A1 (.int .i64 39) (39, 39) (1000, 9223372036854775807) = .ok ∧
    nm A1 (.int .i64 49) (49, 49) (1000, 9223372036854775807) = .ok ∧
    nm A1 (.int .i64 59) (59, 59) (1000, 9223372036854775807) = .ok := ⟨
    by kernel_rfl,
    by kernel_rfl,
    by kernel_rfl,
    by kernel_rfl,
    by kernel_rfl,
    by kernel_rfl,
    by kernel_rfl,
    by kernel_rfl,
    by kernel_rfl,
    by kernel_rfl⟩
end Go.Proofs.YtdbhonkahlcdoaaGreatDoor
