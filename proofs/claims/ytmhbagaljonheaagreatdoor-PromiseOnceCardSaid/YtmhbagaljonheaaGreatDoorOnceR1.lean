/- The calls of PromiseOnce from state to state: small runs, by the kernel (part 1). -/
import Derived.Test.YtmhbagaljonheaaGreatDoorOnceD
namespace Go.Proofs.YtmhbagaljonheaaGreatDoor
open Go Go.Ev
set_option maxRecDepth 1000000
set_option maxHeartbeats 40000000
theorem once7 : OnceAt 7 := ⟨vt (t := .ok) (by kernel_rfl) rfl, vt (t := .ok) (by kernel_rfl) rfl, vt (t := .ok) (by kernel_rfl) rfl, vt (t := .ok) (by kernel_rfl) rfl, vt (t := .ok) (by kernel_rfl) rfl⟩
theorem then7 : ThenAt 7 := ⟨vt (t := .ok) (by kernel_rfl) rfl, vt (t := .ok) (by kernel_rfl) rfl⟩
theorem once8 : OnceAt 8 := ⟨vt (t := .ok) (by kernel_rfl) rfl, vt (t := .ok) (by kernel_rfl) rfl, vt (t := .ok) (by kernel_rfl) rfl, vt (t := .ok) (by kernel_rfl) rfl, vt (t := .ok) (by kernel_rfl) rfl⟩
theorem then8 : ThenAt 8 := ⟨vt (t := .ok) (by kernel_rfl) rfl, vt (t := .ok) (by kernel_rfl) rfl⟩
theorem once9 : OnceAt 9 := ⟨vt (t := .ok) (by kernel_rfl) rfl, vt (t := .ok) (by kernel_rfl) rfl, vt (t := .ok) (by kernel_rfl) rfl, vt (t := .ok) (by kernel_rfl) rfl, vt (t := .ok) (by kernel_rfl) rfl⟩
theorem then9 : ThenAt 9 := ⟨vt (t := .ok) (by kernel_rfl) rfl, vt (t := .ok) (by kernel_rfl) rfl⟩
theorem once10 : OnceAt 10 := ⟨vt (t := .ok) (by kernel_rfl) rfl, vt (t := .ok) (by kernel_rfl) rfl, vt (t := .ok) (by kernel_rfl) rfl, vt (t := .ok) (by kernel_rfl) rfl, vt (t := .ok) (by kernel_rfl) rfl⟩
theorem then10 : ThenAt 10 := ⟨vt (t := .ok) (by kernel_rfl) rfl, vt (t := .ok) (by kernel_rfl) rfl⟩
theorem once11 : OnceAt 11 := ⟨vt (t := .ok) (by kernel_rfl) rfl, vt (t := .ok) (by kernel_rfl) rfl, vt (t := .ok) (by kernel_rfl) rfl, vt (t := .ok) (by kernel_rfl) rfl, vt (t := .ok) (by kernel_rfl) rfl⟩
theorem then11 : ThenAt 11 := ⟨vt (t := .ok) (by kernel_rfl) rfl, vt (t := .ok) (by kernel_rfl) rfl⟩
theorem once12 : OnceAt 12 := ⟨vt (t := .ok) (by kernel_rfl) rfl, vt (t := .ok) (by kernel_rfl) rfl, vt (t := .ok) (by kernel_rfl) rfl, vt (t := .ok) (by kernel_rfl) rfl, vt (t := .ok) (by kernel_rfl) rfl⟩
theorem then12 : ThenAt 12 := ⟨vt (t := .ok) (by kernel_rfl) rfl, vt (t := .ok) (by kernel_rfl) rfl⟩
theorem once13 : OnceAt 13 := ⟨vt (t := .ok) (by kernel_rfl) rfl, vt (t := .ok) (by kernel_rfl) rfl, vt (t := .ok) (by kernel_rfl) rfl, vt (t := .ok) (by kernel_rfl) rfl, vt (t := .ok) (by kernel_rfl) rfl⟩
theorem then13 : ThenAt 13 := ⟨vt (t := .ok) (by kernel_rfl) rfl, vt (t := .ok) (by kernel_rfl) rfl⟩
end Go.Proofs.YtmhbagaljonheaaGreatDoor
