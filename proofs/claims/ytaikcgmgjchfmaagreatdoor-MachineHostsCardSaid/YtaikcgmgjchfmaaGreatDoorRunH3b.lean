/- MachineHosts: the evaluator's runs of it, by the kernel (part 3b). -/
import Derived.Test.YtaikcgmgjchfmaaGreatDoorRunHD
import Derived.KernelRfl
namespace Go.Proofs.YtaikcgmgjchfmaaGreatDoor
open Go Go.Ev
set_option maxRecDepth 1000000
set_option maxHeartbeats 40000000
theorem hosts3b :
    hN 3 true 1 false 1 = .both .ok .ok ∧
    hE 3 true false 1 = .ok ∧
    hN 3 true 1 false 2 = .ok ∧
    hN 3 true 1 false 3 = .ok ∧
    hN 3 true 1 false 4 = .ok ∧
    hN 3 true 1 false 5 = .ok ∧
    hN 3 true 1 true 1 = .ok ∧
    hE 3 true true 1 = .ok ∧
    hN 3 true 1 true 2 = .ok ∧
    hN 3 true 1 true 3 = .ok ∧
    hN 3 true 1 true 4 = .ok ∧
    hN 3 true 1 true 5 = .ok ∧
    hN 3 true 2 false 1 = .both .ok .ok ∧
    hN 3 true 2 false 2 = .ok ∧
    hE 3 true false 2 = .ok ∧
    hN 3 true 2 false 3 = .ok ∧
    hN 3 true 2 false 4 = .ok ∧
    hN 3 true 2 false 5 = .ok ∧
    hN 3 true 2 true 1 = .ok ∧
    hN 3 true 2 true 2 = .ok ∧
    hE 3 true true 2 = .ok ∧
    hN 3 true 2 true 3 = .ok ∧
    hN 3 true 2 true 4 = .ok ∧
    hN 3 true 2 true 5 = .ok ∧
    hN 3 true 3 false 1 = .both .ok .ok ∧
    hN 3 true 3 false 2 = .ok ∧
    hN 3 true 3 false 3 = .ok ∧
    hE 3 true false 3 = .ok ∧
    hN 3 true 3 false 4 = .ok ∧
    hN 3 true 3 false 5 = .ok ∧
    hN 3 true 3 true 1 = .ok ∧
    hN 3 true 3 true 2 = .ok ∧
    hN 3 true 3 true 3 = .ok ∧
    hE 3 true true 3 = .ok ∧
    hN 3 true 3 true 4 = .ok ∧
    hN 3 true 3 true 5 = .ok ∧
    hN 3 true 4 false 1 = .both .ok .ok ∧
    hN 3 true 4 false 2 = .ok ∧
    hN 3 true 4 false 3 = .ok ∧
    hN 3 true 4 false 4 = .ok ∧
    hE 3 true false 4 = .ok ∧
    hN 3 true 4 false 5 = .ok ∧
    hN 3 true 4 true 1 = .ok ∧
    hN 3 true 4 true 2 = .ok ∧
    hN 3 true 4 true 3 = .ok ∧
    hN 3 true 4 true 4 = .ok ∧
    hE 3 true true 4 = .ok ∧
    hN 3 true 4 true 5 = .ok ∧
    hN 3 true 5 false 1 = .both .ok .ok ∧
    hN 3 true 5 false 2 = .ok ∧
    hN 3 true 5 false 3 = .ok ∧
    hN 3 true 5 false 4 = .ok ∧
    hN 3 true 5 false 5 = .ok ∧
    hE 3 true false 5 = .ok ∧
    hN 3 true 5 true 1 = .ok ∧
    hN 3 true 5 true 2 = .ok ∧
    hN 3 true 5 true 3 = .ok ∧
    hN 3 true 5 true 4 = .ok ∧
    hN 3 true 5 true 5 = .ok ∧
    hE 3 true true 5 = .ok := ⟨
    by kernel_rfl,
    by kernel_rfl,
    by kernel_rfl,
    by kernel_rfl,
    by kernel_rfl,
    by kernel_rfl,
    by kernel_rfl,
    by kernel_rfl,
    by kernel_rfl,
    by kernel_rfl,
    by kernel_rfl,
    by kernel_rfl,
    by kernel_rfl,
    by kernel_rfl,
    by kernel_rfl,
    by kernel_rfl,
    by kernel_rfl,
    by kernel_rfl,
    by kernel_rfl,
    by kernel_rfl,
    by kernel_rfl,
    by kernel_rfl,
    by kernel_rfl,
    by kernel_rfl,
    by kernel_rfl,
    by kernel_rfl,
    by kernel_rfl,
    by kernel_rfl,
    by kernel_rfl,
    by kernel_rfl,
    by kernel_rfl,
    by kernel_rfl,
    by kernel_rfl,
    by kernel_rfl,
    by kernel_rfl,
    by kernel_rfl,
    by kernel_rfl,
    by kernel_rfl,
    by kernel_rfl,
    by kernel_rfl,
    by kernel_rfl,
    by kernel_rfl,
    by kernel_rfl,
    by kernel_rfl,
    by kernel_rfl,
    by kernel_rfl,
    by kernel_rfl,
    by kernel_rfl,
    by kernel_rfl,
    by kernel_rfl,
    by kernel_rfl,
    by kernel_rfl,
    by kernel_rfl,
    by kernel_rfl,
    by kernel_rfl,
    by kernel_rfl,
    by kernel_rfl,
    by kernel_rfl,
    by kernel_rfl,
    by kernel_rfl⟩
end Go.Proofs.YtaikcgmgjchfmaaGreatDoor
