/- No value is a promise, a function or a suspended call of a heap that has plain objects alone: small runs, by the kernel. -/
import Derived.Test.YtmhbagaljonheaaGreatDoorSmall
import Derived.KernelRfl
namespace Go.Proofs.YtmhbagaljonheaaGreatDoor
open Go Go.Ev
set_option maxRecDepth 1000000
set_option maxHeartbeats 40000000
def Looks (f : FuncId) (r : CV) : Prop :=
    (runV f [.ptr 100 0, .agg [.sym .i64 0, .sym .i64 1, .ssym 0 2, .sym .i64 3]] ⟨[(-9223372036854775808, 4), (-9223372036854775808, 9223372036854775807), (0, 9223372036854775807), (-9223372036854775808, 9223372036854775807), (0, 0)], []⟩ (r)).val = true ∧
    (runV f [.ptr 100 0, .agg [.sym .i64 0, .sym .i64 1, .ssym 0 2, .sym .i64 3]] ⟨[(6, 9223372036854775807), (-9223372036854775808, 9223372036854775807), (0, 9223372036854775807), (-9223372036854775808, 9223372036854775807), (0, 0)], []⟩ (r)).val = true ∧
    (runV f [.ptr 100 0, .agg [.int .i64 5, .sym .i64 1, .ssym 0 2, .sym .i64 3]] ⟨[(0, 0), (-9223372036854775808, 9223372036854775807), (0, 9223372036854775807), (-9223372036854775808, 999), (0, 0)], []⟩ (r)).val = true ∧
    (runV f [.ptr 100 0, .agg [.int .i64 5, .sym .i64 1, .ssym 0 2, .lin .i64 1000 [(7, 3), (1, 4)]]] ⟨[(0, 0), (-9223372036854775808, 9223372036854775807), (0, 9223372036854775807), (0, 1317624576693539258), (1, 6)], []⟩ (r)).val = true ∧
    (runV f [.ptr 100 0, .agg [.int .i64 5, .sym .i64 1, .ssym 0 2, .lin .i64 1000 [(7, 3)]]] ⟨[(0, 0), (-9223372036854775808, 9223372036854775807), (0, 9223372036854775807), (12, 1317624576693539258), (0, 0)], []⟩ (r)).val = true ∧
    (runV f [.ptr 100 0, .agg [.int .i64 5, .sym .i64 1, .ssym 0 2, .int .i64 1000]] ⟨[(0, 0), (-9223372036854775808, 9223372036854775807), (0, 9223372036854775807), (0, 0), (0, 0)], []⟩ (r)).val = true ∧
    (runV f [.ptr 100 0, .agg [.int .i64 5, .sym .i64 1, .ssym 0 2, .int .i64 1007]] ⟨[(0, 0), (-9223372036854775808, 9223372036854775807), (0, 9223372036854775807), (0, 0), (0, 0)], []⟩ (r)).val = true ∧
    (runV f [.ptr 100 0, .agg [.int .i64 5, .sym .i64 1, .ssym 0 2, .int .i64 1014]] ⟨[(0, 0), (-9223372036854775808, 9223372036854775807), (0, 9223372036854775807), (0, 0), (0, 0)], []⟩ (r)).val = true ∧
    (runV f [.ptr 100 0, .agg [.int .i64 5, .sym .i64 1, .ssym 0 2, .int .i64 1021]] ⟨[(0, 0), (-9223372036854775808, 9223372036854775807), (0, 9223372036854775807), (0, 0), (0, 0)], []⟩ (r)).val = true ∧
    (runV f [.ptr 100 0, .agg [.int .i64 5, .sym .i64 1, .ssym 0 2, .int .i64 1028]] ⟨[(0, 0), (-9223372036854775808, 9223372036854775807), (0, 9223372036854775807), (0, 0), (0, 0)], []⟩ (r)).val = true ∧
    (runV f [.ptr 100 0, .agg [.int .i64 5, .sym .i64 1, .ssym 0 2, .int .i64 1035]] ⟨[(0, 0), (-9223372036854775808, 9223372036854775807), (0, 9223372036854775807), (0, 0), (0, 0)], []⟩ (r)).val = true ∧
    (runV f [.ptr 100 0, .agg [.int .i64 5, .sym .i64 1, .ssym 0 2, .int .i64 1042]] ⟨[(0, 0), (-9223372036854775808, 9223372036854775807), (0, 9223372036854775807), (0, 0), (0, 0)], []⟩ (r)).val = true ∧
    (runV f [.ptr 100 0, .agg [.int .i64 5, .sym .i64 1, .ssym 0 2, .int .i64 1049]] ⟨[(0, 0), (-9223372036854775808, 9223372036854775807), (0, 9223372036854775807), (0, 0), (0, 0)], []⟩ (r)).val = true ∧
    (runV f [.ptr 100 0, .agg [.int .i64 5, .sym .i64 1, .ssym 0 2, .int .i64 1056]] ⟨[(0, 0), (-9223372036854775808, 9223372036854775807), (0, 9223372036854775807), (0, 0), (0, 0)], []⟩ (r)).val = true ∧
    (runV f [.ptr 100 0, .agg [.int .i64 5, .sym .i64 1, .ssym 0 2, .int .i64 1063]] ⟨[(0, 0), (-9223372036854775808, 9223372036854775807), (0, 9223372036854775807), (0, 0), (0, 0)], []⟩ (r)).val = true ∧
    (runV f [.ptr 100 0, .agg [.int .i64 5, .sym .i64 1, .ssym 0 2, .int .i64 1070]] ⟨[(0, 0), (-9223372036854775808, 9223372036854775807), (0, 9223372036854775807), (0, 0), (0, 0)], []⟩ (r)).val = true ∧
    (runV f [.ptr 100 0, .agg [.int .i64 5, .sym .i64 1, .ssym 0 2, .int .i64 1077]] ⟨[(0, 0), (-9223372036854775808, 9223372036854775807), (0, 9223372036854775807), (0, 0), (0, 0)], []⟩ (r)).val = true
theorem callable_runs : Looks 38 (.bool false) := ⟨
    vt (t := .ok) (by kernel_rfl) rfl,
    vt (t := .ok) (by kernel_rfl) rfl,
    vt (t := .ok) (by kernel_rfl) rfl,
    vt (t := .ok) (by kernel_rfl) rfl,
    vt (t := (.both .ok .ok)) (by kernel_rfl) rfl,
    vt (t := .ok) (by kernel_rfl) rfl,
    vt (t := .ok) (by kernel_rfl) rfl,
    vt (t := .ok) (by kernel_rfl) rfl,
    vt (t := .ok) (by kernel_rfl) rfl,
    vt (t := .ok) (by kernel_rfl) rfl,
    vt (t := .ok) (by kernel_rfl) rfl,
    vt (t := .ok) (by kernel_rfl) rfl,
    vt (t := .ok) (by kernel_rfl) rfl,
    vt (t := .ok) (by kernel_rfl) rfl,
    vt (t := .ok) (by kernel_rfl) rfl,
    vt (t := .ok) (by kernel_rfl) rfl,
    vt (t := .ok) (by kernel_rfl) rfl⟩
theorem promiseAt_runs : Looks 58 (.ptr0) := ⟨
    vt (t := .ok) (by kernel_rfl) rfl,
    vt (t := .ok) (by kernel_rfl) rfl,
    vt (t := .ok) (by kernel_rfl) rfl,
    vt (t := .ok) (by kernel_rfl) rfl,
    vt (t := (.both .ok .ok)) (by kernel_rfl) rfl,
    vt (t := .ok) (by kernel_rfl) rfl,
    vt (t := .ok) (by kernel_rfl) rfl,
    vt (t := .ok) (by kernel_rfl) rfl,
    vt (t := .ok) (by kernel_rfl) rfl,
    vt (t := .ok) (by kernel_rfl) rfl,
    vt (t := .ok) (by kernel_rfl) rfl,
    vt (t := .ok) (by kernel_rfl) rfl,
    vt (t := .ok) (by kernel_rfl) rfl,
    vt (t := .ok) (by kernel_rfl) rfl,
    vt (t := .ok) (by kernel_rfl) rfl,
    vt (t := .ok) (by kernel_rfl) rfl,
    vt (t := .ok) (by kernel_rfl) rfl⟩
theorem suspended_runs : Looks 102 (.bool false) := ⟨
    vt (t := .ok) (by kernel_rfl) rfl,
    vt (t := .ok) (by kernel_rfl) rfl,
    vt (t := .ok) (by kernel_rfl) rfl,
    vt (t := .ok) (by kernel_rfl) rfl,
    vt (t := (.both .ok .ok)) (by kernel_rfl) rfl,
    vt (t := .ok) (by kernel_rfl) rfl,
    vt (t := .ok) (by kernel_rfl) rfl,
    vt (t := .ok) (by kernel_rfl) rfl,
    vt (t := .ok) (by kernel_rfl) rfl,
    vt (t := .ok) (by kernel_rfl) rfl,
    vt (t := .ok) (by kernel_rfl) rfl,
    vt (t := .ok) (by kernel_rfl) rfl,
    vt (t := .ok) (by kernel_rfl) rfl,
    vt (t := .ok) (by kernel_rfl) rfl,
    vt (t := .ok) (by kernel_rfl) rfl,
    vt (t := .ok) (by kernel_rfl) rfl,
    vt (t := .ok) (by kernel_rfl) rfl⟩
end Go.Proofs.YtmhbagaljonheaaGreatDoor
