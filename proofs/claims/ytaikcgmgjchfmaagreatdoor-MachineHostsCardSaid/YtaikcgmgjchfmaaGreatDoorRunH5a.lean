/- MachineHosts: the evaluator's runs of it, by the kernel (part 5a). -/
import Derived.Test.YtaikcgmgjchfmaaGreatDoorRunHD
import Derived.KernelRfl
namespace Go.Proofs.YtaikcgmgjchfmaaGreatDoor
open Go Go.Ev
set_option maxRecDepth 1000000
set_option maxHeartbeats 40000000
theorem hosts5a :
    hN 5 false 1 false 1 = .both (.both .ok (.both .ok .ok)) (.both (.both .ok .ok) (.both .ok (.both .ok .ok))) ∧
    hE 5 false false 1 = .both .ok (.both .ok .ok) ∧
    hN 5 false 1 false 2 = .both .ok (.both .ok .ok) ∧
    hN 5 false 1 false 3 = .both .ok (.both .ok .ok) ∧
    hN 5 false 1 false 4 = .both .ok (.both .ok .ok) ∧
    hN 5 false 1 false 5 = .both .ok (.both .ok .ok) ∧
    hN 5 false 1 true 1 = .both (.both .ok .ok) (.both .ok (.both .ok .ok)) ∧
    hE 5 false true 1 = .both .ok .ok ∧
    hN 5 false 1 true 2 = .both .ok (.both .ok .ok) ∧
    hN 5 false 1 true 3 = .both .ok (.both .ok .ok) ∧
    hN 5 false 1 true 4 = .both .ok (.both .ok .ok) ∧
    hN 5 false 1 true 5 = .both .ok (.both .ok .ok) ∧
    hN 5 false 2 false 1 = .both .ok (.both .ok .ok) ∧
    hN 5 false 2 false 2 = .ok ∧
    hE 5 false false 2 = .ok ∧
    hN 5 false 2 false 3 = .ok ∧
    hN 5 false 2 false 4 = .ok ∧
    hN 5 false 2 false 5 = .ok ∧
    hN 5 false 2 true 1 = .both .ok .ok ∧
    hN 5 false 2 true 2 = .ok ∧
    hE 5 false true 2 = .ok ∧
    hN 5 false 2 true 3 = .ok ∧
    hN 5 false 2 true 4 = .ok ∧
    hN 5 false 2 true 5 = .ok ∧
    hN 5 false 3 false 1 = .both .ok (.both .ok .ok) ∧
    hN 5 false 3 false 2 = .ok ∧
    hN 5 false 3 false 3 = .ok ∧
    hE 5 false false 3 = .ok ∧
    hN 5 false 3 false 4 = .ok ∧
    hN 5 false 3 false 5 = .ok ∧
    hN 5 false 3 true 1 = .both .ok .ok ∧
    hN 5 false 3 true 2 = .ok ∧
    hN 5 false 3 true 3 = .ok ∧
    hE 5 false true 3 = .ok ∧
    hN 5 false 3 true 4 = .ok ∧
    hN 5 false 3 true 5 = .ok ∧
    hN 5 false 4 false 1 = .both .ok (.both .ok .ok) ∧
    hN 5 false 4 false 2 = .ok ∧
    hN 5 false 4 false 3 = .ok ∧
    hN 5 false 4 false 4 = .ok ∧
    hE 5 false false 4 = .ok ∧
    hN 5 false 4 false 5 = .ok ∧
    hN 5 false 4 true 1 = .both .ok .ok ∧
    hN 5 false 4 true 2 = .ok ∧
    hN 5 false 4 true 3 = .ok ∧
    hN 5 false 4 true 4 = .ok ∧
    hE 5 false true 4 = .ok ∧
    hN 5 false 4 true 5 = .ok ∧
    hN 5 false 5 false 1 = .both .ok (.both .ok .ok) ∧
    hN 5 false 5 false 2 = .ok ∧
    hN 5 false 5 false 3 = .ok ∧
    hN 5 false 5 false 4 = .ok ∧
    hN 5 false 5 false 5 = .ok ∧
    hE 5 false false 5 = .ok ∧
    hN 5 false 5 true 1 = .both .ok .ok ∧
    hN 5 false 5 true 2 = .ok ∧
    hN 5 false 5 true 3 = .ok ∧
    hN 5 false 5 true 4 = .ok ∧
    hN 5 false 5 true 5 = .ok ∧
    hE 5 false true 5 = .ok := ⟨
    by kernel_rfl,
    by kernel_rfl,
    by kernel_rfl,
    by kernel_rfl,
    by kernel_rfl,
    by kernel_rfl,
    by kernel_rfl,
    by kernel_rfl,
    by kernel_rfl,
    by kernel_rfl,
    by kernel_rfl,
    by kernel_rfl,
    by kernel_rfl,
    by kernel_rfl,
    by kernel_rfl,
    by kernel_rfl,
    by kernel_rfl,
    by kernel_rfl,
    by kernel_rfl,
    by kernel_rfl,
    by kernel_rfl,
    by kernel_rfl,
    by kernel_rfl,
    by kernel_rfl,
    by kernel_rfl,
    by kernel_rfl,
    by kernel_rfl,
    by kernel_rfl,
    by kernel_rfl,
    by kernel_rfl,
    by kernel_rfl,
    by kernel_rfl,
    by kernel_rfl,
    by kernel_rfl,
    by kernel_rfl,
    by kernel_rfl,
    by kernel_rfl,
    by kernel_rfl,
    by kernel_rfl,
    by kernel_rfl,
    by kernel_rfl,
    by kernel_rfl,
    by kernel_rfl,
    by kernel_rfl,
    by kernel_rfl,
    by kernel_rfl,
    by kernel_rfl,
    by kernel_rfl,
    by kernel_rfl,
    by kernel_rfl,
    by kernel_rfl,
    by kernel_rfl,
    by kernel_rfl,
    by kernel_rfl,
    by kernel_rfl,
    by kernel_rfl,
    by kernel_rfl,
    by kernel_rfl,
    by kernel_rfl,
    by kernel_rfl⟩
end Go.Proofs.YtaikcgmgjchfmaaGreatDoor
