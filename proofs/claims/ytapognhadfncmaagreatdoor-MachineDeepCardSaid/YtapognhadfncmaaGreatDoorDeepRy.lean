/- MachineDeep: every round of the loop is seen. -/
import Derived.Test.YtapognhadfncmaaGreatDoorDeepRd0a
import Derived.Test.YtapognhadfncmaaGreatDoorDeepRd0b
import Derived.Test.YtapognhadfncmaaGreatDoorDeepRt0a
import Derived.Test.YtapognhadfncmaaGreatDoorDeepRt0b
import Derived.Test.YtapognhadfncmaaGreatDoorDeepRu0a
import Derived.Test.YtapognhadfncmaaGreatDoorDeepRu0b
import Derived.Test.YtapognhadfncmaaGreatDoorDeepRd1a
import Derived.Test.YtapognhadfncmaaGreatDoorDeepRd1b
import Derived.Test.YtapognhadfncmaaGreatDoorDeepRt1a
import Derived.Test.YtapognhadfncmaaGreatDoorDeepRt1b
import Derived.Test.YtapognhadfncmaaGreatDoorDeepRu1a
import Derived.Test.YtapognhadfncmaaGreatDoorDeepRu1b
import Derived.Test.YtapognhadfncmaaGreatDoorDeepRz
namespace Go.Proofs.YtapognhadfncmaaGreatDoor
open Go Go.Ev
theorem dn0_all (j : Nat) (h : j < 254) : (dn0 j).val = true := by
  rcases (by omega : j < 16 ∨ (16 ≤ j ∧ j < 32) ∨ (32 ≤ j ∧ j < 48) ∨ (48 ≤ j ∧ j < 64) ∨ (64 ≤ j ∧ j < 80) ∨ (80 ≤ j ∧ j < 96) ∨ (96 ≤ j ∧ j < 112) ∨ (112 ≤ j ∧ j < 128) ∨ (128 ≤ j ∧ j < 144) ∨ (144 ≤ j ∧ j < 160) ∨ (160 ≤ j ∧ j < 176) ∨ (176 ≤ j ∧ j < 192) ∨ (192 ≤ j ∧ j < 208) ∨ (208 ≤ j ∧ j < 224) ∨ (224 ≤ j ∧ j < 240) ∨ (240 ≤ j ∧ j < 254)) with h | h | h | h | h | h | h | h | h | h | h | h | h | h | h | h
  · exact okA_eq dn0_0 j (by omega) (by omega)
  · exact okA_eq dn0_16 j (by omega) (by omega)
  · exact okA_eq dn0_32 j (by omega) (by omega)
  · exact okA_eq dn0_48 j (by omega) (by omega)
  · exact okA_eq dn0_64 j (by omega) (by omega)
  · exact okA_eq dn0_80 j (by omega) (by omega)
  · exact okA_eq dn0_96 j (by omega) (by omega)
  · exact okA_eq dn0_112 j (by omega) (by omega)
  · exact okA_eq dn0_128 j (by omega) (by omega)
  · exact okA_eq dn0_144 j (by omega) (by omega)
  · exact okA_eq dn0_160 j (by omega) (by omega)
  · exact okA_eq dn0_176 j (by omega) (by omega)
  · exact okA_eq dn0_192 j (by omega) (by omega)
  · exact okA_eq dn0_208 j (by omega) (by omega)
  · exact okA_eq dn0_224 j (by omega) (by omega)
  · exact okA_eq dn0_240 j (by omega) (by omega)
theorem dn1_all (j : Nat) (h : j < 254) : (dn1 j).val = true := by
  rcases (by omega : j < 16 ∨ (16 ≤ j ∧ j < 32) ∨ (32 ≤ j ∧ j < 48) ∨ (48 ≤ j ∧ j < 64) ∨ (64 ≤ j ∧ j < 80) ∨ (80 ≤ j ∧ j < 96) ∨ (96 ≤ j ∧ j < 112) ∨ (112 ≤ j ∧ j < 128) ∨ (128 ≤ j ∧ j < 144) ∨ (144 ≤ j ∧ j < 160) ∨ (160 ≤ j ∧ j < 176) ∨ (176 ≤ j ∧ j < 192) ∨ (192 ≤ j ∧ j < 208) ∨ (208 ≤ j ∧ j < 224) ∨ (224 ≤ j ∧ j < 240) ∨ (240 ≤ j ∧ j < 254)) with h | h | h | h | h | h | h | h | h | h | h | h | h | h | h | h
  · exact okA_eq dn1_0 j (by omega) (by omega)
  · exact okA_eq dn1_16 j (by omega) (by omega)
  · exact okA_eq dn1_32 j (by omega) (by omega)
  · exact okA_eq dn1_48 j (by omega) (by omega)
  · exact okA_eq dn1_64 j (by omega) (by omega)
  · exact okA_eq dn1_80 j (by omega) (by omega)
  · exact okA_eq dn1_96 j (by omega) (by omega)
  · exact okA_eq dn1_112 j (by omega) (by omega)
  · exact okA_eq dn1_128 j (by omega) (by omega)
  · exact okA_eq dn1_144 j (by omega) (by omega)
  · exact okA_eq dn1_160 j (by omega) (by omega)
  · exact okA_eq dn1_176 j (by omega) (by omega)
  · exact okA_eq dn1_192 j (by omega) (by omega)
  · exact okA_eq dn1_208 j (by omega) (by omega)
  · exact okA_eq dn1_224 j (by omega) (by omega)
  · exact okA_eq dn1_240 j (by omega) (by omega)
theorem tn0_all (j : Nat) (h : j < 255) : (tn0 j).val = true := by
  rcases (by omega : j < 16 ∨ (16 ≤ j ∧ j < 32) ∨ (32 ≤ j ∧ j < 48) ∨ (48 ≤ j ∧ j < 64) ∨ (64 ≤ j ∧ j < 80) ∨ (80 ≤ j ∧ j < 96) ∨ (96 ≤ j ∧ j < 112) ∨ (112 ≤ j ∧ j < 128) ∨ (128 ≤ j ∧ j < 144) ∨ (144 ≤ j ∧ j < 160) ∨ (160 ≤ j ∧ j < 176) ∨ (176 ≤ j ∧ j < 192) ∨ (192 ≤ j ∧ j < 208) ∨ (208 ≤ j ∧ j < 224) ∨ (224 ≤ j ∧ j < 240) ∨ (240 ≤ j ∧ j < 255)) with h | h | h | h | h | h | h | h | h | h | h | h | h | h | h | h
  · exact okA_eq tn0_0 j (by omega) (by omega)
  · exact okA_eq tn0_16 j (by omega) (by omega)
  · exact okA_eq tn0_32 j (by omega) (by omega)
  · exact okA_eq tn0_48 j (by omega) (by omega)
  · exact okA_eq tn0_64 j (by omega) (by omega)
  · exact okA_eq tn0_80 j (by omega) (by omega)
  · exact okA_eq tn0_96 j (by omega) (by omega)
  · exact okA_eq tn0_112 j (by omega) (by omega)
  · exact okA_eq tn0_128 j (by omega) (by omega)
  · exact okA_eq tn0_144 j (by omega) (by omega)
  · exact okA_eq tn0_160 j (by omega) (by omega)
  · exact okA_eq tn0_176 j (by omega) (by omega)
  · exact okA_eq tn0_192 j (by omega) (by omega)
  · exact okA_eq tn0_208 j (by omega) (by omega)
  · exact okA_eq tn0_224 j (by omega) (by omega)
  · exact okA_eq tn0_240 j (by omega) (by omega)
theorem tn1_all (j : Nat) (h : j < 255) : (tn1 j).val = true := by
  rcases (by omega : j < 16 ∨ (16 ≤ j ∧ j < 32) ∨ (32 ≤ j ∧ j < 48) ∨ (48 ≤ j ∧ j < 64) ∨ (64 ≤ j ∧ j < 80) ∨ (80 ≤ j ∧ j < 96) ∨ (96 ≤ j ∧ j < 112) ∨ (112 ≤ j ∧ j < 128) ∨ (128 ≤ j ∧ j < 144) ∨ (144 ≤ j ∧ j < 160) ∨ (160 ≤ j ∧ j < 176) ∨ (176 ≤ j ∧ j < 192) ∨ (192 ≤ j ∧ j < 208) ∨ (208 ≤ j ∧ j < 224) ∨ (224 ≤ j ∧ j < 240) ∨ (240 ≤ j ∧ j < 255)) with h | h | h | h | h | h | h | h | h | h | h | h | h | h | h | h
  · exact okA_eq tn1_0 j (by omega) (by omega)
  · exact okA_eq tn1_16 j (by omega) (by omega)
  · exact okA_eq tn1_32 j (by omega) (by omega)
  · exact okA_eq tn1_48 j (by omega) (by omega)
  · exact okA_eq tn1_64 j (by omega) (by omega)
  · exact okA_eq tn1_80 j (by omega) (by omega)
  · exact okA_eq tn1_96 j (by omega) (by omega)
  · exact okA_eq tn1_112 j (by omega) (by omega)
  · exact okA_eq tn1_128 j (by omega) (by omega)
  · exact okA_eq tn1_144 j (by omega) (by omega)
  · exact okA_eq tn1_160 j (by omega) (by omega)
  · exact okA_eq tn1_176 j (by omega) (by omega)
  · exact okA_eq tn1_192 j (by omega) (by omega)
  · exact okA_eq tn1_208 j (by omega) (by omega)
  · exact okA_eq tn1_224 j (by omega) (by omega)
  · exact okA_eq tn1_240 j (by omega) (by omega)
theorem up0_all (j : Nat) (h : j < 254) : (up0 j).val = true := by
  rcases (by omega : j < 16 ∨ (16 ≤ j ∧ j < 32) ∨ (32 ≤ j ∧ j < 48) ∨ (48 ≤ j ∧ j < 64) ∨ (64 ≤ j ∧ j < 80) ∨ (80 ≤ j ∧ j < 96) ∨ (96 ≤ j ∧ j < 112) ∨ (112 ≤ j ∧ j < 128) ∨ (128 ≤ j ∧ j < 144) ∨ (144 ≤ j ∧ j < 160) ∨ (160 ≤ j ∧ j < 176) ∨ (176 ≤ j ∧ j < 192) ∨ (192 ≤ j ∧ j < 208) ∨ (208 ≤ j ∧ j < 224) ∨ (224 ≤ j ∧ j < 240) ∨ (240 ≤ j ∧ j < 254)) with h | h | h | h | h | h | h | h | h | h | h | h | h | h | h | h
  · exact okA_eq up0_0 j (by omega) (by omega)
  · exact okA_eq up0_16 j (by omega) (by omega)
  · exact okA_eq up0_32 j (by omega) (by omega)
  · exact okA_eq up0_48 j (by omega) (by omega)
  · exact okA_eq up0_64 j (by omega) (by omega)
  · exact okA_eq up0_80 j (by omega) (by omega)
  · exact okA_eq up0_96 j (by omega) (by omega)
  · exact okA_eq up0_112 j (by omega) (by omega)
  · exact okA_eq up0_128 j (by omega) (by omega)
  · exact okA_eq up0_144 j (by omega) (by omega)
  · exact okA_eq up0_160 j (by omega) (by omega)
  · exact okA_eq up0_176 j (by omega) (by omega)
  · exact okA_eq up0_192 j (by omega) (by omega)
  · exact okA_eq up0_208 j (by omega) (by omega)
  · exact okA_eq up0_224 j (by omega) (by omega)
  · exact okA_eq up0_240 j (by omega) (by omega)
theorem up1_all (j : Nat) (h : j < 254) : (up1 j).val = true := by
  rcases (by omega : j < 16 ∨ (16 ≤ j ∧ j < 32) ∨ (32 ≤ j ∧ j < 48) ∨ (48 ≤ j ∧ j < 64) ∨ (64 ≤ j ∧ j < 80) ∨ (80 ≤ j ∧ j < 96) ∨ (96 ≤ j ∧ j < 112) ∨ (112 ≤ j ∧ j < 128) ∨ (128 ≤ j ∧ j < 144) ∨ (144 ≤ j ∧ j < 160) ∨ (160 ≤ j ∧ j < 176) ∨ (176 ≤ j ∧ j < 192) ∨ (192 ≤ j ∧ j < 208) ∨ (208 ≤ j ∧ j < 224) ∨ (224 ≤ j ∧ j < 240) ∨ (240 ≤ j ∧ j < 254)) with h | h | h | h | h | h | h | h | h | h | h | h | h | h | h | h
  · exact okA_eq up1_0 j (by omega) (by omega)
  · exact okA_eq up1_16 j (by omega) (by omega)
  · exact okA_eq up1_32 j (by omega) (by omega)
  · exact okA_eq up1_48 j (by omega) (by omega)
  · exact okA_eq up1_64 j (by omega) (by omega)
  · exact okA_eq up1_80 j (by omega) (by omega)
  · exact okA_eq up1_96 j (by omega) (by omega)
  · exact okA_eq up1_112 j (by omega) (by omega)
  · exact okA_eq up1_128 j (by omega) (by omega)
  · exact okA_eq up1_144 j (by omega) (by omega)
  · exact okA_eq up1_160 j (by omega) (by omega)
  · exact okA_eq up1_176 j (by omega) (by omega)
  · exact okA_eq up1_192 j (by omega) (by omega)
  · exact okA_eq up1_208 j (by omega) (by omega)
  · exact okA_eq up1_224 j (by omega) (by omega)
  · exact okA_eq up1_240 j (by omega) (by omega)
end Go.Proofs.YtapognhadfncmaaGreatDoor
