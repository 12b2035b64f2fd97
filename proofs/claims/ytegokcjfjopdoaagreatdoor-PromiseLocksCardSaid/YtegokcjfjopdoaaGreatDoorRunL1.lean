/- PromiseLocks: the evaluator's runs of it, by the kernel, one for each remainder of n by 10 where how leaves 1 by 3; v stays a symbol. -/
import Derived.Test.YtegokcjfjopdoaaGreatDoorEvZe
import Derived.Test.YtegokcjfjopdoaaGreatDoorProg
import Derived.KernelRfl
namespace Go.Proofs.YtegokcjfjopdoaaGreatDoor
open Go Go.Ev
set_option maxRecDepth 1000000
noncomputable def heap1r1 : Hp := ofList (List.replicate 8 CB.none)
def Locks1 (r : Nat) : Prop := callStep Tryz.prog (fun _ => false) 100000 (ovr 22 (callC Tryz.prog (fun _ => false) 100000 60)) (.func 4) [.symr .u8 0 10 r, .sym .i32 1, .symr .u8 2 3 1] ⟨heap1r1, 8, [(0, 255), (-2147483648, 2147483647), (0, 255)]⟩ isT = true
theorem locks1_0 : Locks1 0 := by unfold Locks1; kernel_rfl
theorem locks1_1 : Locks1 1 := by unfold Locks1; kernel_rfl
theorem locks1_2 : Locks1 2 := by unfold Locks1; kernel_rfl
theorem locks1_3 : Locks1 3 := by unfold Locks1; kernel_rfl
theorem locks1_4 : Locks1 4 := by unfold Locks1; kernel_rfl
theorem locks1_5 : Locks1 5 := by unfold Locks1; kernel_rfl
theorem locks1_6 : Locks1 6 := by unfold Locks1; kernel_rfl
theorem locks1_7 : Locks1 7 := by unfold Locks1; kernel_rfl
theorem locks1_8 : Locks1 8 := by unfold Locks1; kernel_rfl
theorem locks1_9 : Locks1 9 := by unfold Locks1; kernel_rfl
theorem locks1_all : ∀ r, r < 10 → Locks1 r
  | 0, _ => locks1_0
  | 1, _ => locks1_1
  | 2, _ => locks1_2
  | 3, _ => locks1_3
  | 4, _ => locks1_4
  | 5, _ => locks1_5
  | 6, _ => locks1_6
  | 7, _ => locks1_7
  | 8, _ => locks1_8
  | 9, _ => locks1_9
  | n + 10, h => absurd h (by omega)
end Go.Proofs.YtegokcjfjopdoaaGreatDoor
