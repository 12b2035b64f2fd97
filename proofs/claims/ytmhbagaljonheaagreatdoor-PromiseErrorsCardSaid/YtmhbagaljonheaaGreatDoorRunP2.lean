/- PromiseErrors: the evaluator's runs of it, by the kernel (errs3, errs4). -/
import Derived.Test.YtmhbagaljonheaaGreatDoorRunM
namespace Go.Proofs.YtmhbagaljonheaaGreatDoor
open Go Go.Ev
set_option maxRecDepth 1000000
set_option maxHeartbeats 40000000
theorem errs3 : Errs (.sl 7 0 3 3) := ⟨
    vt (t := .ok) (by kernel_rfl) rfl,
    vt (t := .ok) (by kernel_rfl) rfl,
    vt (t := .ok) (by kernel_rfl) rfl,
    vt (t := .ok) (by kernel_rfl) rfl,
    vt (t := .ok) (by kernel_rfl) rfl,
    vt (t := .ok) (by kernel_rfl) rfl,
    vt (t := .ok) (by kernel_rfl) rfl,
    vt (t := .ok) (by kernel_rfl) rfl,
    vt (t := .ok) (by kernel_rfl) rfl,
    vt (t := .ok) (by kernel_rfl) rfl,
    vt (t := .ok) (by kernel_rfl) rfl,
    vt (t := .ok) (by kernel_rfl) rfl,
    vt (t := (.both .ok .ok)) (by kernel_rfl) rfl,
    vt (t := .ok) (by kernel_rfl) rfl,
    vt (t := .ok) (by kernel_rfl) rfl,
    vt (t := .ok) (by kernel_rfl) rfl,
    vt (t := .ok) (by kernel_rfl) rfl,
    vt (t := .ok) (by kernel_rfl) rfl,
    vt (t := .ok) (by kernel_rfl) rfl,
    vt (t := .ok) (by kernel_rfl) rfl,
    vt (t := .ok) (by kernel_rfl) rfl,
    vt (t := .ok) (by kernel_rfl) rfl,
    vt (t := .ok) (by kernel_rfl) rfl,
    vt (t := .ok) (by kernel_rfl) rfl,
    vt (t := .ok) (by kernel_rfl) rfl⟩
theorem errs4 : Errs (.sl 7 0 4 4) := ⟨
    vt (t := .ok) (by kernel_rfl) rfl,
    vt (t := .ok) (by kernel_rfl) rfl,
    vt (t := .ok) (by kernel_rfl) rfl,
    vt (t := .ok) (by kernel_rfl) rfl,
    vt (t := .ok) (by kernel_rfl) rfl,
    vt (t := .ok) (by kernel_rfl) rfl,
    vt (t := .ok) (by kernel_rfl) rfl,
    vt (t := .ok) (by kernel_rfl) rfl,
    vt (t := .ok) (by kernel_rfl) rfl,
    vt (t := .ok) (by kernel_rfl) rfl,
    vt (t := .ok) (by kernel_rfl) rfl,
    vt (t := .ok) (by kernel_rfl) rfl,
    vt (t := (.both .ok .ok)) (by kernel_rfl) rfl,
    vt (t := .ok) (by kernel_rfl) rfl,
    vt (t := .ok) (by kernel_rfl) rfl,
    vt (t := .ok) (by kernel_rfl) rfl,
    vt (t := .ok) (by kernel_rfl) rfl,
    vt (t := .ok) (by kernel_rfl) rfl,
    vt (t := .ok) (by kernel_rfl) rfl,
    vt (t := .ok) (by kernel_rfl) rfl,
    vt (t := .ok) (by kernel_rfl) rfl,
    vt (t := .ok) (by kernel_rfl) rfl,
    vt (t := .ok) (by kernel_rfl) rfl,
    vt (t := .ok) (by kernel_rfl) rfl,
    vt (t := .ok) (by kernel_rfl) rfl⟩
end Go.Proofs.YtmhbagaljonheaaGreatDoor
