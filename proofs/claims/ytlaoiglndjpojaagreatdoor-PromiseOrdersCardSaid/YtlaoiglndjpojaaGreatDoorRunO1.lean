/- PromiseOrders: the evaluator's runs of it, by the kernel, where before leaves 1 by 6: one for each remainder of after and each value of rejected. -/
import Derived.Test.YtlaoiglndjpojaaGreatDoorRunD
import Derived.KernelRfl
namespace Go.Proofs.YtlaoiglndjpojaaGreatDoor
open Go Go.Ev
set_option maxRecDepth 1000000
set_option maxHeartbeats 4000000
theorem orders1 :
    runs 4 3 [.symr .u8 0 6 1 1, .symr .u8 1 6 0 1, .bool true] ⟨[(0, 255), (0, 255)], []⟩ = true ∧
    runs 4 3 [.symr .u8 0 6 1 1, .symr .u8 1 6 1 1, .bool true] ⟨[(0, 255), (0, 255)], []⟩ = true ∧
    runs 4 3 [.symr .u8 0 6 1 1, .symr .u8 1 6 2 1, .bool true] ⟨[(0, 255), (0, 255)], []⟩ = true ∧
    runs 4 3 [.symr .u8 0 6 1 1, .symr .u8 1 6 3 1, .bool true] ⟨[(0, 255), (0, 255)], []⟩ = true ∧
    runs 4 3 [.symr .u8 0 6 1 1, .symr .u8 1 6 4 1, .bool true] ⟨[(0, 255), (0, 255)], []⟩ = true ∧
    runs 4 3 [.symr .u8 0 6 1 1, .symr .u8 1 6 5 1, .bool true] ⟨[(0, 255), (0, 255)], []⟩ = true ∧
    runs 4 3 [.symr .u8 0 6 1 1, .symr .u8 1 6 0 1, .bool false] ⟨[(0, 255), (0, 255)], []⟩ = true ∧
    runs 4 3 [.symr .u8 0 6 1 1, .symr .u8 1 6 1 1, .bool false] ⟨[(0, 255), (0, 255)], []⟩ = true ∧
    runs 4 3 [.symr .u8 0 6 1 1, .symr .u8 1 6 2 1, .bool false] ⟨[(0, 255), (0, 255)], []⟩ = true ∧
    runs 4 3 [.symr .u8 0 6 1 1, .symr .u8 1 6 3 1, .bool false] ⟨[(0, 255), (0, 255)], []⟩ = true ∧
    runs 4 3 [.symr .u8 0 6 1 1, .symr .u8 1 6 4 1, .bool false] ⟨[(0, 255), (0, 255)], []⟩ = true ∧
    runs 4 3 [.symr .u8 0 6 1 1, .symr .u8 1 6 5 1, .bool false] ⟨[(0, 255), (0, 255)], []⟩ = true := ⟨by kernel_rfl, by kernel_rfl, by kernel_rfl, by kernel_rfl, by kernel_rfl, by kernel_rfl, by kernel_rfl, by kernel_rfl, by kernel_rfl, by kernel_rfl, by kernel_rfl, by kernel_rfl⟩
end Go.Proofs.YtlaoiglndjpojaaGreatDoor
