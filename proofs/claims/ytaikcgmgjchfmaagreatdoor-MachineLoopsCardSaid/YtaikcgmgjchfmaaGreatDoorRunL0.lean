/- MachineLoops: the evaluator's runs of it, by the kernel (part 0). -/
import Derived.Test.YtaikcgmgjchfmaaGreatDoorLoopsD
import Derived.KernelRfl
namespace Go.Proofs.YtaikcgmgjchfmaaGreatDoor
open Go Go.Ev
set_option maxRecDepth 1000000
set_option maxHeartbeats 40000000
theorem loops0 :
    runB 3 (30, [(1, 2)]) (30, [(40, 1), (1, 2)]) (0, [(7, 3), (1, 4)]) [(0, 255), (0, 6), (0, 9), (0, 36), (0, 6), (0, 3), (0, 6000), (0, 6000), (0, 39), (0, 300), (0, 39), (0, 0)] [] = .both (.both (.both (.both (.both (.both (.both (.both (.both (.both .ok .ok) (.both .ok .ok)) (.both .ok .ok)) (.both .ok .ok)) (.both .ok .ok)) (.both .ok .ok)) (.both .ok .ok)) (.both .ok .ok)) (.both .ok .ok)) (.both .ok .ok) := by kernel_rfl
end Go.Proofs.YtaikcgmgjchfmaaGreatDoor
