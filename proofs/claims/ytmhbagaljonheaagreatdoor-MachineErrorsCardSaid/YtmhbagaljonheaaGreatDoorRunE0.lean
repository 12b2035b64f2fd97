/- MachineErrors: the evaluator's runs of it, by the kernel (part A). -/
import Derived.Test.YtmhbagaljonheaaGreatDoorRunD
import Derived.KernelRfl
namespace Go.Proofs.YtmhbagaljonheaaGreatDoor
open Go Go.Ev
set_option maxRecDepth 1000000
set_option maxHeartbeats 40000000
theorem errorsA :
    (runs 3 [.sym .i64 2, .agg [.int .i64 0, .sym .i64 4, .ssym 0 0, .sym .i64 5], .sym .u16 6] ⟨[(0, 60), (0, 9223372036854775807), (-9223372036854775808, 9223372036854775807), (0, 0), (-9223372036854775808, 9223372036854775807), (-9223372036854775808, 9223372036854775807), (0, 65535)], []⟩).val = true ∧
    (runs 3 [.sym .i64 2, .agg [.int .i64 1, .sym .i64 4, .ssym 0 0, .sym .i64 5], .sym .u16 6] ⟨[(0, 60), (0, 9223372036854775807), (-9223372036854775808, 9223372036854775807), (0, 0), (-9223372036854775808, 9223372036854775807), (-9223372036854775808, 9223372036854775807), (0, 65535)], []⟩).val = true ∧
    (runs 3 [.sym .i64 2, .agg [.int .i64 3, .sym .i64 4, .ssym 0 0, .sym .i64 5], .sym .u16 6] ⟨[(0, 60), (0, 9223372036854775807), (-9223372036854775808, 9223372036854775807), (0, 0), (-9223372036854775808, 9223372036854775807), (-9223372036854775808, 9223372036854775807), (0, 65535)], []⟩).val = true ∧
    (runs 3 [.sym .i64 2, .agg [.int .i64 4, .sym .i64 4, .ssym 0 0, .sym .i64 5], .sym .u16 6] ⟨[(0, 60), (0, 9223372036854775807), (-9223372036854775808, 9223372036854775807), (0, 0), (-9223372036854775808, 9223372036854775807), (-9223372036854775808, 9223372036854775807), (0, 65535)], []⟩).val = true ∧
    (runs 3 [.sym .i64 2, .agg [.int .i64 5, .sym .i64 4, .ssym 0 0, .sym .i64 5], .sym .u16 6] ⟨[(0, 60), (0, 9223372036854775807), (-9223372036854775808, 9223372036854775807), (0, 0), (-9223372036854775808, 9223372036854775807), (-9223372036854775808, 9223372036854775807), (0, 65535)], []⟩).val = true ∧
    (runs 3 [.sym .i64 2, .agg [.int .i64 6, .sym .i64 4, .ssym 0 0, .sym .i64 5], .sym .u16 6] ⟨[(0, 60), (0, 9223372036854775807), (-9223372036854775808, 9223372036854775807), (0, 0), (-9223372036854775808, 9223372036854775807), (-9223372036854775808, 9223372036854775807), (0, 65535)], []⟩).val = true := ⟨
    vt (t := (.both .ok (.both (.both .ok .ok) .ok))) (by kernel_rfl) rfl,
    vt (t := (.both .ok (.both (.both .ok .ok) .ok))) (by kernel_rfl) rfl,
    vt (t := (.both .ok (.both (.both .ok .ok) .ok))) (by kernel_rfl) rfl,
    vt (t := (.both .ok (.both (.both .ok .ok) .ok))) (by kernel_rfl) rfl,
    vt (t := (.both .ok (.both (.both .ok .ok) .ok))) (by kernel_rfl) rfl,
    vt (t := (.both .ok (.both (.both .ok .ok) .ok))) (by kernel_rfl) rfl⟩
end Go.Proofs.YtmhbagaljonheaaGreatDoor
