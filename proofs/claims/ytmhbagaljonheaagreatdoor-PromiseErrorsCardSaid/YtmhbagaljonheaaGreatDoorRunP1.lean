/- PromiseErrors: the evaluator's runs of it, by the kernel (errs1, errs2). -/
import Derived.Test.YtmhbagaljonheaaGreatDoorRunM
namespace Go.Proofs.YtmhbagaljonheaaGreatDoor
open Go Go.Ev
set_option maxRecDepth 1000000
set_option maxHeartbeats 40000000
theorem errs1 : Errs (.sl 7 0 1 1) := ⟨
    vt (t := .ok) (by kernel_rfl) rfl,
    vt (t := .ok) (by kernel_rfl) rfl,
    vt (t := .ok) (by kernel_rfl) rfl,
    vt (t := .ok) (by kernel_rfl) rfl,
    vt (t := .ok) (by kernel_rfl) rfl,
    vt (t := .ok) (by kernel_rfl) rfl,
    vt (t := .ok) (by kernel_rfl) rfl,
    vt (t := .ok) (by kernel_rfl) rfl,
    vt (t := .ok) (by kernel_rfl) rfl,
    vt (t := .ok) (by kernel_rfl) rfl,
    vt (t := .ok) (by kernel_rfl) rfl,
    vt (t := .ok) (by kernel_rfl) rfl,
    vt (t := (.both .ok .ok)) (by kernel_rfl) rfl,
    vt (t := .ok) (by kernel_rfl) rfl,
    vt (t := .ok) (by kernel_rfl) rfl,
    vt (t := .ok) (by kernel_rfl) rfl,
    vt (t := .ok) (by kernel_rfl) rfl,
    vt (t := .ok) (by kernel_rfl) rfl,
    vt (t := .ok) (by kernel_rfl) rfl,
    vt (t := .ok) (by kernel_rfl) rfl,
    vt (t := .ok) (by kernel_rfl) rfl,
    vt (t := .ok) (by kernel_rfl) rfl,
    vt (t := .ok) (by kernel_rfl) rfl,
    vt (t := .ok) (by kernel_rfl) rfl,
    vt (t := .ok) (by kernel_rfl) rfl⟩
theorem errs2 : Errs (.sl 7 0 2 2) := ⟨
    vt (t := .ok) (by kernel_rfl) rfl,
    vt (t := .ok) (by kernel_rfl) rfl,
    vt (t := .ok) (by kernel_rfl) rfl,
    vt (t := .ok) (by kernel_rfl) rfl,
    vt (t := .ok) (by kernel_rfl) rfl,
    vt (t := .ok) (by kernel_rfl) rfl,
    vt (t := .ok) (by kernel_rfl) rfl,
    vt (t := .ok) (by kernel_rfl) rfl,
    vt (t := .ok) (by kernel_rfl) rfl,
    vt (t := .ok) (by kernel_rfl) rfl,
    vt (t := .ok) (by kernel_rfl) rfl,
    vt (t := .ok) (by kernel_rfl) rfl,
    vt (t := (.both .ok .ok)) (by kernel_rfl) rfl,
    vt (t := .ok) (by kernel_rfl) rfl,
    vt (t := .ok) (by kernel_rfl) rfl,
    vt (t := .ok) (by kernel_rfl) rfl,
    vt (t := .ok) (by kernel_rfl) rfl,
    vt (t := .ok) (by kernel_rfl) rfl,
    vt (t := .ok) (by kernel_rfl) rfl,
    vt (t := .ok) (by kernel_rfl) rfl,
    vt (t := .ok) (by kernel_rfl) rfl,
    vt (t := .ok) (by kernel_rfl) rfl,
    vt (t := .ok) (by kernel_rfl) rfl,
    vt (t := .ok) (by kernel_rfl) rfl,
    vt (t := .ok) (by kernel_rfl) rfl⟩
end Go.Proofs.YtmhbagaljonheaaGreatDoor
