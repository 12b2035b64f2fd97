/- The calls of PromiseOnce from state to state: small runs, by the kernel (part 0). -/
import Derived.Test.YtmhbagaljonheaaGreatDoorOnceD
namespace Go.Proofs.YtmhbagaljonheaaGreatDoor
open Go Go.Ev
set_option maxRecDepth 1000000
set_option maxHeartbeats 40000000
theorem once0 : OnceAt 0 := ⟨vt (t := .ok) (by kernel_rfl) rfl, vt (t := .ok) (by kernel_rfl) rfl, vt (t := .ok) (by kernel_rfl) rfl, vt (t := .ok) (by kernel_rfl) rfl, vt (t := .ok) (by kernel_rfl) rfl⟩
theorem then0 : ThenAt 0 := ⟨vt (t := .ok) (by kernel_rfl) rfl, vt (t := .ok) (by kernel_rfl) rfl⟩
theorem once1 : OnceAt 1 := ⟨vt (t := .ok) (by kernel_rfl) rfl, vt (t := .ok) (by kernel_rfl) rfl, vt (t := .ok) (by kernel_rfl) rfl, vt (t := .ok) (by kernel_rfl) rfl, vt (t := .ok) (by kernel_rfl) rfl⟩
theorem then1 : ThenAt 1 := ⟨vt (t := .ok) (by kernel_rfl) rfl, vt (t := .ok) (by kernel_rfl) rfl⟩
theorem once2 : OnceAt 2 := ⟨vt (t := .ok) (by kernel_rfl) rfl, vt (t := .ok) (by kernel_rfl) rfl, vt (t := .ok) (by kernel_rfl) rfl, vt (t := .ok) (by kernel_rfl) rfl, vt (t := .ok) (by kernel_rfl) rfl⟩
theorem then2 : ThenAt 2 := ⟨vt (t := .ok) (by kernel_rfl) rfl, vt (t := .ok) (by kernel_rfl) rfl⟩
theorem once3 : OnceAt 3 := ⟨vt (t := .ok) (by kernel_rfl) rfl, vt (t := .ok) (by kernel_rfl) rfl, vt (t := .ok) (by kernel_rfl) rfl, vt (t := .ok) (by kernel_rfl) rfl, vt (t := .ok) (by kernel_rfl) rfl⟩
theorem then3 : ThenAt 3 := ⟨vt (t := .ok) (by kernel_rfl) rfl, vt (t := .ok) (by kernel_rfl) rfl⟩
theorem once4 : OnceAt 4 := ⟨vt (t := .ok) (by kernel_rfl) rfl, vt (t := .ok) (by kernel_rfl) rfl, vt (t := .ok) (by kernel_rfl) rfl, vt (t := .ok) (by kernel_rfl) rfl, vt (t := .ok) (by kernel_rfl) rfl⟩
theorem then4 : ThenAt 4 := ⟨vt (t := .ok) (by kernel_rfl) rfl, vt (t := .ok) (by kernel_rfl) rfl⟩
theorem once5 : OnceAt 5 := ⟨vt (t := .ok) (by kernel_rfl) rfl, vt (t := .ok) (by kernel_rfl) rfl, vt (t := .ok) (by kernel_rfl) rfl, vt (t := .ok) (by kernel_rfl) rfl, vt (t := .ok) (by kernel_rfl) rfl⟩
theorem then5 : ThenAt 5 := ⟨vt (t := .ok) (by kernel_rfl) rfl, vt (t := .ok) (by kernel_rfl) rfl⟩
theorem once6 : OnceAt 6 := ⟨vt (t := .ok) (by kernel_rfl) rfl, vt (t := .ok) (by kernel_rfl) rfl, vt (t := .ok) (by kernel_rfl) rfl, vt (t := .ok) (by kernel_rfl) rfl, vt (t := .ok) (by kernel_rfl) rfl⟩
theorem then6 : ThenAt 6 := ⟨vt (t := .ok) (by kernel_rfl) rfl, vt (t := .ok) (by kernel_rfl) rfl⟩
end Go.Proofs.YtmhbagaljonheaaGreatDoor
