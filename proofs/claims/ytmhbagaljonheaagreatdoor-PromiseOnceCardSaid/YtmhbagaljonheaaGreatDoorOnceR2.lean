/- The calls of PromiseOnce from state to state: small runs, by the kernel (part 2). -/
import Derived.Test.YtmhbagaljonheaaGreatDoorOnceD
namespace Go.Proofs.YtmhbagaljonheaaGreatDoor
open Go Go.Ev
set_option maxRecDepth 1000000
set_option maxHeartbeats 40000000
theorem once14 : OnceAt 14 := ⟨vt (t := .ok) (by kernel_rfl) rfl, vt (t := .ok) (by kernel_rfl) rfl, vt (t := .ok) (by kernel_rfl) rfl, vt (t := .ok) (by kernel_rfl) rfl, vt (t := .ok) (by kernel_rfl) rfl⟩
theorem then14 : ThenAt 14 := ⟨vt (t := .ok) (by kernel_rfl) rfl, vt (t := .ok) (by kernel_rfl) rfl⟩
theorem once15 : OnceAt 15 := ⟨vt (t := .ok) (by kernel_rfl) rfl, vt (t := .ok) (by kernel_rfl) rfl, vt (t := .ok) (by kernel_rfl) rfl, vt (t := .ok) (by kernel_rfl) rfl, vt (t := .ok) (by kernel_rfl) rfl⟩
theorem then15 : ThenAt 15 := ⟨vt (t := .ok) (by kernel_rfl) rfl, vt (t := .ok) (by kernel_rfl) rfl⟩
theorem once16 : OnceAt 16 := ⟨vt (t := .ok) (by kernel_rfl) rfl, vt (t := .ok) (by kernel_rfl) rfl, vt (t := .ok) (by kernel_rfl) rfl, vt (t := .ok) (by kernel_rfl) rfl, vt (t := .ok) (by kernel_rfl) rfl⟩
theorem then16 : ThenAt 16 := ⟨vt (t := .ok) (by kernel_rfl) rfl, vt (t := .ok) (by kernel_rfl) rfl⟩
theorem once17 : OnceAt 17 := ⟨vt (t := .ok) (by kernel_rfl) rfl, vt (t := .ok) (by kernel_rfl) rfl, vt (t := .ok) (by kernel_rfl) rfl, vt (t := .ok) (by kernel_rfl) rfl, vt (t := .ok) (by kernel_rfl) rfl⟩
theorem then17 : ThenAt 17 := ⟨vt (t := .ok) (by kernel_rfl) rfl, vt (t := .ok) (by kernel_rfl) rfl⟩
theorem once18 : OnceAt 18 := ⟨vt (t := .ok) (by kernel_rfl) rfl, vt (t := .ok) (by kernel_rfl) rfl, vt (t := .ok) (by kernel_rfl) rfl, vt (t := .ok) (by kernel_rfl) rfl, vt (t := .ok) (by kernel_rfl) rfl⟩
theorem then18 : ThenAt 18 := ⟨vt (t := .ok) (by kernel_rfl) rfl, vt (t := .ok) (by kernel_rfl) rfl⟩
theorem once19 : OnceAt 19 := ⟨vt (t := .ok) (by kernel_rfl) rfl, vt (t := .ok) (by kernel_rfl) rfl, vt (t := .ok) (by kernel_rfl) rfl, vt (t := .ok) (by kernel_rfl) rfl, vt (t := .ok) (by kernel_rfl) rfl⟩
theorem then19 : ThenAt 19 := ⟨vt (t := .ok) (by kernel_rfl) rfl, vt (t := .ok) (by kernel_rfl) rfl⟩
theorem once20 : OnceAt 20 := ⟨vt (t := .ok) (by kernel_rfl) rfl, vt (t := .ok) (by kernel_rfl) rfl, vt (t := .ok) (by kernel_rfl) rfl, vt (t := .ok) (by kernel_rfl) rfl, vt (t := .ok) (by kernel_rfl) rfl⟩
end Go.Proofs.YtmhbagaljonheaaGreatDoor
