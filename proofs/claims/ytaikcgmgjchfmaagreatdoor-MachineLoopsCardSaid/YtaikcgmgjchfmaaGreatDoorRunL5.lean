/- MachineLoops: the evaluator's runs of it, by the kernel (part 5). -/
import Derived.Test.YtaikcgmgjchfmaaGreatDoorLoopsD
import Derived.KernelRfl
namespace Go.Proofs.YtaikcgmgjchfmaaGreatDoor
open Go Go.Ev
set_option maxRecDepth 1000000
set_option maxHeartbeats 40000000
theorem loops5 :
    runAt 2 false (20, [(1, 2)]) (20, [(40, 1), (1, 2)]) (1, [(7, 3)]) [(0, 255), (0, 6), (0, 9), (0, 36), (0, 6), (0, 3), (0, 6000), (0, 6000), (0, 39), (0, 300), (0, 39), (0, 0)] = .both (.both (.both (.both (.both (.both (.both (.both (.both (.both .ok (.both .ok .ok)) (.both .ok (.both .ok .ok))) (.both .ok (.both .ok .ok))) (.both .ok (.both .ok .ok))) (.both .ok (.both .ok .ok))) (.both .ok (.both .ok .ok))) (.both .ok (.both .ok .ok))) (.both .ok (.both .ok .ok))) (.both .ok (.both .ok .ok))) (.both .ok (.both .ok .ok)) ∧
    runAt 3 false (10, [(1, 2)]) (10, [(40, 1), (1, 2)]) (2, [(7, 3)]) [(0, 255), (0, 6), (0, 9), (0, 36), (0, 6), (0, 3), (0, 6000), (0, 6000), (0, 39), (0, 300), (0, 39), (0, 0)] = .both (.both (.both (.both (.both (.both (.both (.both (.both (.both .ok (.both .ok .ok)) (.both .ok (.both .ok .ok))) (.both .ok (.both .ok .ok))) (.both .ok (.both .ok .ok))) (.both .ok (.both .ok .ok))) (.both .ok (.both .ok .ok))) (.both .ok (.both .ok .ok))) (.both .ok (.both .ok .ok))) (.both .ok (.both .ok .ok))) (.both .ok (.both .ok .ok)) ∧
    runAt 3 false (30, [(1, 2)]) (30, [(40, 1), (1, 2)]) (2, [(7, 3)]) [(0, 255), (0, 6), (0, 9), (0, 36), (0, 6), (0, 3), (0, 6000), (0, 6000), (0, 39), (0, 300), (0, 39), (0, 0)] = .both (.both (.both (.both (.both (.both (.both (.both (.both (.both .ok (.both .ok .ok)) (.both .ok (.both .ok .ok))) (.both .ok (.both .ok .ok))) (.both .ok (.both .ok .ok))) (.both .ok (.both .ok .ok))) (.both .ok (.both .ok .ok))) (.both .ok (.both .ok .ok))) (.both .ok (.both .ok .ok))) (.both .ok (.both .ok .ok))) (.both .ok (.both .ok .ok)) ∧
    runN 0 (1, [(40, 1)]) (2, [(7, 3)]) [(0, 255), (0, 6), (0, 9), (0, 36), (0, 6), (0, 3), (0, 6000), (0, 6000), (0, 39), (0, 300), (0, 39), (0, 0)] = .ok ∧
    runAt 5 true (0, [(1, 2)]) (0, [(40, 1), (1, 2)]) (4, [(7, 3)]) [(0, 255), (0, 6), (2, 9), (0, 36), (0, 6), (0, 3), (0, 6000), (0, 6000), (0, 39), (0, 300), (0, 39), (1, 1)] = .both (.both .ok (.both .ok .ok)) (.both (.both (.both (.both (.both (.both (.both (.both .ok (.both .ok .ok)) (.both .ok (.both .ok .ok))) (.both .ok (.both .ok .ok))) (.both .ok (.both .ok .ok))) (.both .ok (.both .ok .ok))) (.both .ok (.both .ok .ok))) (.both .ok (.both .ok .ok))) (.both .ok (.both .ok .ok))) ∧
    runAt 7 false (10, [(1, 2)]) (10, [(40, 1), (1, 2)]) (6, [(7, 3)]) [(0, 255), (0, 6), (0, 9), (0, 36), (0, 6), (0, 3), (0, 6000), (0, 6000), (0, 39), (0, 300), (0, 39), (0, 0)] = .both (.both (.both (.both (.both (.both (.both (.both (.both (.both .ok (.both .ok .ok)) (.both .ok (.both .ok .ok))) (.both .ok (.both .ok .ok))) (.both .ok (.both .ok .ok))) (.both .ok (.both .ok .ok))) (.both .ok (.both .ok .ok))) (.both .ok (.both .ok .ok))) (.both .ok (.both .ok .ok))) (.both .ok (.both .ok .ok))) (.both .ok (.both .ok .ok)) ∧
    runN 0 (0, [(40, 1)]) (6, [(7, 3)]) [(0, 255), (0, 6), (0, 9), (0, 36), (0, 6), (0, 3), (0, 6000), (0, 6000), (0, 39), (0, 300), (0, 39), (0, 0)] = .ok ∧
    runB 1 (30, [(1, 2)]) (30, [(40, 1), (1, 2)]) (0, [(7, 3), (1, 4)]) [(0, 255), (0, 6), (0, 9), (0, 36), (0, 6), (0, 3), (0, 6000), (0, 6000), (0, 39), (0, 300), (0, 39), (0, 0)] [] = .both (.both (.both (.both (.both (.both (.both (.both (.both (.both .ok .ok) (.both .ok .ok)) (.both .ok .ok)) (.both .ok .ok)) (.both .ok .ok)) (.both .ok .ok)) (.both .ok .ok)) (.both .ok .ok)) (.both .ok .ok)) (.both .ok .ok) ∧
    runB 2 (20, [(1, 2)]) (20, [(40, 1), (1, 2)]) (0, [(7, 3), (1, 4)]) [(0, 255), (0, 6), (0, 9), (0, 36), (0, 6), (0, 3), (0, 6000), (0, 6000), (0, 39), (0, 300), (0, 39), (0, 0)] [] = .both (.both (.both (.both (.both (.both (.both (.both (.both (.both .ok .ok) (.both .ok .ok)) (.both .ok .ok)) (.both .ok .ok)) (.both .ok .ok)) (.both .ok .ok)) (.both .ok .ok)) (.both .ok .ok)) (.both .ok .ok)) (.both .ok .ok) ∧
    runN 3 (0, [(40, 1)]) (0, [(7, 3), (1, 4)]) [(0, 255), (0, 6), (0, 9), (0, 36), (0, 6), (0, 3), (0, 6000), (0, 6000), (0, 39), (0, 300), (0, 39), (0, 0)] = .ok := ⟨
    by kernel_rfl,
    by kernel_rfl,
    by kernel_rfl,
    by kernel_rfl,
    by kernel_rfl,
    by kernel_rfl,
    by kernel_rfl,
    by kernel_rfl,
    by kernel_rfl,
    by kernel_rfl⟩
end Go.Proofs.YtaikcgmgjchfmaaGreatDoor
