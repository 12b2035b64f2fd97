/- PromiseLocks: the evaluator's runs of it, by the kernel, one for each remainder of n by 10 where how leaves 2 by 3; v stays a symbol. -/
import Derived.Test.YtegokcjfjopdoaaGreatDoorEvZe
import Derived.Test.YtegokcjfjopdoaaGreatDoorProg
import Derived.KernelRfl
namespace Go.Proofs.YtegokcjfjopdoaaGreatDoor
open Go Go.Ev
set_option maxRecDepth 1000000
noncomputable def heap1r2 : Hp := ofList (List.replicate 8 CB.none)
def Locks2 (r : Nat) : Prop := callStep Tryz.prog (fun _ => false) 100000 (ovr 22 (callC Tryz.prog (fun _ => false) 100000 60)) (.func 4) [.symr .u8 0 10 r, .sym .i32 1, .symr .u8 2 3 2] ⟨heap1r2, 8, [(0, 255), (-2147483648, 2147483647), (0, 255)]⟩ isT = true
theorem locks2_0 : Locks2 0 := by unfold Locks2; kernel_rfl
theorem locks2_1 : Locks2 1 := by unfold Locks2; kernel_rfl
theorem locks2_2 : Locks2 2 := by unfold Locks2; kernel_rfl
theorem locks2_3 : Locks2 3 := by unfold Locks2; kernel_rfl
theorem locks2_4 : Locks2 4 := by unfold Locks2; kernel_rfl
theorem locks2_5 : Locks2 5 := by unfold Locks2; kernel_rfl
theorem locks2_6 : Locks2 6 := by unfold Locks2; kernel_rfl
theorem locks2_7 : Locks2 7 := by unfold Locks2; kernel_rfl
theorem locks2_8 : Locks2 8 := by unfold Locks2; kernel_rfl
theorem locks2_9 : Locks2 9 := by unfold Locks2; kernel_rfl
theorem locks2_all : ∀ r, r < 10 → Locks2 r
  | 0, _ => locks2_0
  | 1, _ => locks2_1
  | 2, _ => locks2_2
  | 3, _ => locks2_3
  | 4, _ => locks2_4
  | 5, _ => locks2_5
  | 6, _ => locks2_6
  | 7, _ => locks2_7
  | 8, _ => locks2_8
  | 9, _ => locks2_9
  | n + 10, h => absurd h (by omega)
end Go.Proofs.YtegokcjfjopdoaaGreatDoor
