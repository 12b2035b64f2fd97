/- PromiseErrors: the evaluator's runs of it, by the kernel (errs5, errs6). -/
import Derived.Test.YtmhbagaljonheaaGreatDoorRunM
namespace Go.Proofs.YtmhbagaljonheaaGreatDoor
open Go Go.Ev
set_option maxRecDepth 1000000
set_option maxHeartbeats 40000000
theorem errs5 : Errs (.sl 7 0 5 5) := ⟨
    vt (t := .ok) (by kernel_rfl) rfl,
    vt (t := .ok) (by kernel_rfl) rfl,
    vt (t := .ok) (by kernel_rfl) rfl,
    vt (t := .ok) (by kernel_rfl) rfl,
    vt (t := .ok) (by kernel_rfl) rfl,
    vt (t := .ok) (by kernel_rfl) rfl,
    vt (t := .ok) (by kernel_rfl) rfl,
    vt (t := .ok) (by kernel_rfl) rfl,
    vt (t := .ok) (by kernel_rfl) rfl,
    vt (t := .ok) (by kernel_rfl) rfl,
    vt (t := .ok) (by kernel_rfl) rfl,
    vt (t := .ok) (by kernel_rfl) rfl,
    vt (t := (.both .ok .ok)) (by kernel_rfl) rfl,
    vt (t := .ok) (by kernel_rfl) rfl,
    vt (t := .ok) (by kernel_rfl) rfl,
    vt (t := .ok) (by kernel_rfl) rfl,
    vt (t := .ok) (by kernel_rfl) rfl,
    vt (t := .ok) (by kernel_rfl) rfl,
    vt (t := .ok) (by kernel_rfl) rfl,
    vt (t := .ok) (by kernel_rfl) rfl,
    vt (t := .ok) (by kernel_rfl) rfl,
    vt (t := .ok) (by kernel_rfl) rfl,
    vt (t := .ok) (by kernel_rfl) rfl,
    vt (t := .ok) (by kernel_rfl) rfl,
    vt (t := .ok) (by kernel_rfl) rfl⟩
theorem errs6 : Errs (.sl 7 0 6 6) := ⟨
    vt (t := .ok) (by kernel_rfl) rfl,
    vt (t := .ok) (by kernel_rfl) rfl,
    vt (t := .ok) (by kernel_rfl) rfl,
    vt (t := .ok) (by kernel_rfl) rfl,
    vt (t := .ok) (by kernel_rfl) rfl,
    vt (t := .ok) (by kernel_rfl) rfl,
    vt (t := .ok) (by kernel_rfl) rfl,
    vt (t := .ok) (by kernel_rfl) rfl,
    vt (t := .ok) (by kernel_rfl) rfl,
    vt (t := .ok) (by kernel_rfl) rfl,
    vt (t := .ok) (by kernel_rfl) rfl,
    vt (t := .ok) (by kernel_rfl) rfl,
    vt (t := (.both .ok .ok)) (by kernel_rfl) rfl,
    vt (t := .ok) (by kernel_rfl) rfl,
    vt (t := .ok) (by kernel_rfl) rfl,
    vt (t := .ok) (by kernel_rfl) rfl,
    vt (t := .ok) (by kernel_rfl) rfl,
    vt (t := .ok) (by kernel_rfl) rfl,
    vt (t := .ok) (by kernel_rfl) rfl,
    vt (t := .ok) (by kernel_rfl) rfl,
    vt (t := .ok) (by kernel_rfl) rfl,
    vt (t := .ok) (by kernel_rfl) rfl,
    vt (t := .ok) (by kernel_rfl) rfl,
    vt (t := .ok) (by kernel_rfl) rfl,
    vt (t := .ok) (by kernel_rfl) rfl⟩
end Go.Proofs.YtmhbagaljonheaaGreatDoor
