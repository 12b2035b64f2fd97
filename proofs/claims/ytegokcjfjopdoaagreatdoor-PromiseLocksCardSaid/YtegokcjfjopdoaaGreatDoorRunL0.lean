/- PromiseLocks: the evaluator's runs of it, by the kernel, one for each remainder of n by 10 where how leaves 0 by 3; v stays a symbol. -/
import Derived.Test.YtegokcjfjopdoaaGreatDoorEvZe
import Derived.Test.YtegokcjfjopdoaaGreatDoorProg
import Derived.KernelRfl
namespace Go.Proofs.YtegokcjfjopdoaaGreatDoor
open Go Go.Ev
set_option maxRecDepth 1000000
noncomputable def heap1r0 : Hp := ofList (List.replicate 8 CB.none)
def Locks0 (r : Nat) : Prop := callStep Tryz.prog (fun _ => false) 100000 (ovr 22 (callC Tryz.prog (fun _ => false) 100000 60)) (.func 4) [.symr .u8 0 10 r, .sym .i32 1, .symr .u8 2 3 0] ⟨heap1r0, 8, [(0, 255), (-2147483648, 2147483647), (0, 255)]⟩ isT = true
theorem locks0_0 : Locks0 0 := by unfold Locks0; kernel_rfl
theorem locks0_1 : Locks0 1 := by unfold Locks0; kernel_rfl
theorem locks0_2 : Locks0 2 := by unfold Locks0; kernel_rfl
theorem locks0_3 : Locks0 3 := by unfold Locks0; kernel_rfl
theorem locks0_4 : Locks0 4 := by unfold Locks0; kernel_rfl
theorem locks0_5 : Locks0 5 := by unfold Locks0; kernel_rfl
theorem locks0_6 : Locks0 6 := by unfold Locks0; kernel_rfl
theorem locks0_7 : Locks0 7 := by unfold Locks0; kernel_rfl
theorem locks0_8 : Locks0 8 := by unfold Locks0; kernel_rfl
theorem locks0_9 : Locks0 9 := by unfold Locks0; kernel_rfl
theorem locks0_all : ∀ r, r < 10 → Locks0 r
  | 0, _ => locks0_0
  | 1, _ => locks0_1
  | 2, _ => locks0_2
  | 3, _ => locks0_3
  | 4, _ => locks0_4
  | 5, _ => locks0_5
  | 6, _ => locks0_6
  | 7, _ => locks0_7
  | 8, _ => locks0_8
  | 9, _ => locks0_9
  | n + 10, h => absurd h (by omega)
end Go.Proofs.YtegokcjfjopdoaaGreatDoor
