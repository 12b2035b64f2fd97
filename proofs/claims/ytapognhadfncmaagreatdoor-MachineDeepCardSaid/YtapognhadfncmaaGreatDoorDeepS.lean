/- MachineDeep: the points of the machine's loop, as small memories: j calls deep on the way down, i calls deep on the way up. -/
import Derived.Test.YtapognhadfncmaaGreatDoorRunR
import Derived.Test.YtapognhadfncmaaGreatDoorEvO
namespace Go.Proofs.YtapognhadfncmaaGreatDoor
open Go Go.Ev
set_option maxRecDepth 1000000
noncomputable def i (n : Nat) : CV := .int .i64 (.ofNat n)
/-- the number of calls, and a number: the number q of the level is taken off -/
noncomputable def kf (a : Int) (q : Nat) : CV := .lin .i64 (a - .ofNat q) [(1, 0)]
noncomputable def upto {α : Type} (f : Nat → List α) (n : Nat) : List α := Nat.rec (motive := fun _ => Nat → List α) (fun _ => []) (fun _ ih i => f i ++ ih (Nat.succ i)) n 0
/-- the slots of Finish at the loop's head: w is World -/
noncomputable def sl0 (w : Nat) (i0 : CV) : List CV := [.ptr w 0, i 20000, undefC, undefC, .bool false, i0] ++ List.replicate 8 undefC
noncomputable def sl1 (w : Nat) (i0 i1 : CV) : List CV := [.ptr w 0, i 20000, undefC, undefC, .bool false, i0, i1, i 20000, .bool true, i1, i0, .ptr w 0, .bool true, .bool false]
noncomputable def sl9 (w : Nat) (i0 i1 : CV) : List CV := [.ptr w 0, i 20000, undefC, undefC, .bool true, i0, i0, i 20000, .bool true, i1, i0, .ptr w 0, .bool false, .bool true]
noncomputable def ids (n : Nat) : List (Nat × Nat) := (List.range n).map fun b => (b, 0)
/-! how = 0: 13 blocks that stay -/
noncomputable def st0 : Pt := ⟨[⟨0, false, 0, [.str 0 0, i 1, i 0, i 1, .sl 4 0 11 11, .sl 3 0 2 2, .sl0, .str 1 102, i 1, i 1, i 1, .sl 2 0 17 17, .sl 1 0 3 3, .sl0]⟩,
  ⟨228, true, 3, [i 1, i 0, .str 0 0, i 1, i 1, .str 0 0, i 2, i 0, .str 1 102]⟩,
  ⟨113, true, 3, [i 12, i 0, i 0, i 1, i 0, i 0, i 39, i 13, i 0, i 41, i 6, i 0, i 1, i 0, i 0, i 40, i 14, i 0, i 1, i 1, i 0, i 22, i 2, i 0, i 2, i 0, i 0, i 12, i 0, i 0, i 1, i 1, i 0, i 39, i 7, i 0, i 46, i 1, i 0, i 39, i 6, i 0, i 48, i 0, i 0, i 2, i 0, i 0, i 48, i 0, i 0]⟩,
  ⟨228, true, 3, [i 2, i 0, .str 1 102, i 1, kf (0) 0, .str 0 0]⟩,
  ⟨113, true, 3, [i 2, i 0, i 0, i 14, i 0, i 0, i 37, i 1, i 0, i 24, i 0, i 0, i 22, i 0, i 0, i 2, i 0, i 0, i 1, i 1, i 0, i 46, i 1, i 0, i 14, i 0, i 0, i 12, i 0, i 0, i 48, i 0, i 0]⟩,
  ⟨0, false, 0, [i 1, i 2, i 3, i 3, i 4, i 5, i 6, i 7, i 8, i 0, i 9, i 10]⟩,
  ⟨0, false, 0, [.sl 9 0 1 1, .bool false, i 0, i 0, .sl 7 0 12 12, .sl0, i 12, i 12, i 11, .sl 5 0 12 12, .sl 0 0 2 2, i 0, i 0, .str 0 0, i 0, .bool false, .sl0, .sl0, i 0, i 0]⟩,
  ⟨148, true, 11, [.bool true, i 0, i 0, .sl0, .sl0, .sl0, i 0, i 0, i 0, i 0, .sl0, .bool true, i 0, i 1, .sl0, .sl0, .sl0, i 0, i 0, i 0, i 0, .sl0, .bool true, i 0, i 1, .sl0, .sl0, .sl0, i 0, i 0, i 0, i 0, .sl0, .bool true, i 0, i 1, .sl0, .sl0, .sl0, i 0, i 0, i 0, i 0, .sl0, .bool true, i 0, i 1, .sl0, .sl0, .sl0, i 0, i 0, i 0, i 0, .sl0, .bool true, i 0, i 1, .sl0, .sl0, .sl0, i 0, i 0, i 0, i 0, .sl0, .bool true, i 0, i 1, .sl0, .sl0, .sl0, i 0, i 0, i 0, i 0, .sl0, .bool true, i 0, i 1, .sl0, .sl0, .sl0, i 0, i 0, i 0, i 0, .sl0, .bool true, i 0, i 1, .sl0, .sl0, .sl0, i 0, i 0, i 0, i 0, .sl0, .bool true, i 0, i 1, .sl0, .sl0, .sl0, i 0, i 0, i 0, i 0, .sl0, .bool true, i 0, i 1, .sl0, .sl0, .sl0, i 0, i 0, i 0, i 0, .sl0, .bool true, i 0, i 1, .sl0, .sl0, .sl0, i 0, i 0, i 0, i 0, .sl0]⟩,
  ⟨45, true, 4, [i 6, i 0, .str 0 0, i 0]⟩,
  ⟨63, true, 16, [i 1, i 0, i 0, i 0, i 0, .str 0 0, i 0, .sl 8 0 1 1, .sl0] ++ List.replicate 6 (i 0) ++ [.sl0]⟩], [.ptr 6 0, i 20000] ++ List.replicate 12 undefC⟩
noncomputable def st0b : Pt := ⟨st0.s, [.ptr 6 0, i 20000, undefC, undefC, .bool false] ++ List.replicate 9 undefC⟩
noncomputable def st0a : Pt := ⟨st0.s, sl0 6 (i 0)⟩
noncomputable def fx0 (c0 s x0 x1 x3 : CV) : List BC := [⟨0, false, 0, [.str 0 0, i 1, i 0, i 1, .sl 4 0 11 11, .sl 3 0 2 2, .sl0, .str 1 102, i 1, i 1, i 1, .sl 2 0 17 17, .sl 1 0 3 3, .sl0]⟩,
  ⟨228, true, 3, [i 1, i 0, .str 0 0, i 1, i 1, .str 0 0, i 2, i 0, .str 1 102]⟩,
  ⟨113, true, 3, [i 12, i 0, i 0, i 1, i 0, i 0, i 39, i 13, i 0, i 41, i 6, i 0, i 1, i 0, i 0, i 40, i 14, i 0, i 1, i 1, i 0, i 22, i 2, i 0, i 2, i 0, i 0, i 12, i 0, i 0, i 1, i 1, i 0, i 39, i 7, i 0, i 46, i 1, i 0, i 39, i 6, i 0, i 48, i 0, i 0, i 2, i 0, i 0, i 48, i 0, i 0]⟩,
  ⟨228, true, 3, [i 2, i 0, .str 1 102, i 1, kf (0) 0, .str 0 0]⟩,
  ⟨113, true, 3, [i 2, i 0, i 0, i 14, i 0, i 0, i 37, i 1, i 0, i 24, i 0, i 0, i 22, i 0, i 0, i 2, i 0, i 0, i 1, i 1, i 0, i 46, i 1, i 0, i 14, i 0, i 0, i 12, i 0, i 0, i 48, i 0, i 0]⟩,
  ⟨0, false, 0, [i 1, i 2, i 3, i 3, i 4, i 5, i 6, i 7, i 8, i 0, i 9, i 10]⟩,
  ⟨0, false, 0, [c0, .bool false, i 0, i 0, .sl 8 0 14 14, .sl0, i 14, i 12, i 11, .sl 5 0 12 12, .sl 0 0 2 2, i 0, i 0, .str 0 0, i 0, .bool false, .sl0, .sl0, i 0, s]⟩,
  ⟨45, true, 4, [i 0, i 0, .str 0 0, i 0]⟩,
  ⟨148, true, 11, [.bool true, i 0, i 0, .sl0, .sl0, .sl0, i 0, i 0, i 0, i 0, .sl0, .bool true, i 0, i 1, .sl0, .sl0, .sl0, i 0, i 0, i 0, i 0, .sl0, .bool true, i 0, i 1, .sl0, .sl0, .sl0, i 0, i 0, i 0, i 0, .sl0, .bool true, i 0, i 1, .sl0, .sl0, .sl0, i 0, i 0, i 0, i 0, .sl0, .bool true, i 0, i 1, .sl0, .sl0, .sl0, i 0, i 0, i 0, i 0, .sl0, .bool true, i 0, i 1, .sl0, .sl0, .sl0, i 0, i 0, i 0, i 0, .sl0, .bool true, i 0, i 1, .sl0, .sl0, .sl0, i 0, i 0, i 0, i 0, .sl0, .bool true, i 0, i 1, .sl0, .sl0, .sl0, i 0, i 0, i 0, i 0, .sl0, .bool true, i 0, i 1, .sl0, .sl0, .sl0, i 0, i 0, i 0, i 0, .sl0, .bool true, i 0, i 1, .sl0, .sl0, .sl0, i 0, i 0, i 0, i 0, .sl0, .bool true, i 0, i 1, .sl0, .sl0, .sl0, i 0, i 0, i 0, i 0, .sl0, .bool true, i 0, i 1, .sl 11 0 1 1, .sl0, .sl0, i 0, i 0, i 0, i 0, .sl0, .bool true, i 2, i 3, .sl 10 0 1 1, .sl0, .sl0, i 1, i 0, i 0, i 0, .sl0, .bool true, i 0, i 1, .sl 9 0 1 1, .sl0, .sl0, i 0, i 0, i 0, i 0, .sl0]⟩,
  ⟨93, true, 5, [.str 11 120209876282695187130773362, i 5, i 0, .str 0 0, i 13]⟩,
  ⟨93, true, 5, [.str 9 2074281273720252756069, i 5, i 0, .str 0 0, i 14]⟩,
  ⟨93, true, 5, [.str 1 102, i 5, i 0, .str 0 0, i 13]⟩,
  ⟨45, true, 4, [x0, x1, .str 0 0, x3, i 0, i 0, .str 0 0, i 0, i 3, kf (0) 0, .str 0 0, i 0]⟩]
noncomputable def lt0 (q : Nat) : BC := ⟨45, true, 4, [i 3, kf (0) q, .str 0 0, i 0]⟩
noncomputable def su0 (q : Nat) (y : List CV) : BC := ⟨45, true, 4, [i 3, i 1, .str 0 0, i 0] ++ (y ++ ([i 0, i 0, .str 0 0, i 0, i 3, kf (-1) q, .str 0 0, i 0, i 3, i 1, .str 0 0, i 0]))⟩
noncomputable def sy0 : List CV := [i 5, i 0, .str 0 0, i 13]
noncomputable def fs0 (p : CV) (n : Nat) : List CV := [i 1, i 0, p, i 0, i 0, .str 0 0, i 0, .sl 7 0 1 1, .sl 12 0 n 3] ++ List.replicate 6 (i 0) ++ [.sl0]
noncomputable def fm0 (l s : Nat) (p : CV) (n : Nat) : List CV := [i 1, i 1, p, i 0, i 0, .str 0 0, i 0, .sl l 0 1 1, .sl s 0 n 5] ++ List.replicate 6 (i 0) ++ [.sl0]
noncomputable def ft0 (l : Nat) : List CV := [i 1, i 1, i 0, i 0, i 0, .str 0 0, i 0, .sl l 0 1 1, .sl0] ++ List.replicate 6 (i 0) ++ [.sl0]
noncomputable def D0 (j : Nat) : Pt := ⟨fx0 (.sl (14 + 2 * j) 0 (j + 2) (j + 2)) (i (8 + 11 * j)) (i 5) (i 0) (i 13) ++ (upto (fun q => [lt0 q, su0 q sy0]) j ++ [lt0 j, ⟨63, true, 16, fs0 (i 7) 0 ++ (upto (fun q => fm0 (13 + 2 * q) (14 + 2 * q) (i 12) 1) j ++ ft0 (13 + 2 * j))⟩]), sl1 6 (i (8 + 11 * j)) (i (7 + 11 * j))⟩
noncomputable def A0 (j : Nat) : Pt := ⟨fx0 (.sl (15 + 2 * j) 0 (j + 2) (j + 2)) (.lin .i64 (13 - .ofNat (2 * j)) [(13, 0)]) (i 5) (i 0) (i 13) ++ (upto (fun q => [lt0 q, su0 q sy0]) j ++ [lt0 j, su0 j [i 3, kf (-1) j, .str 0 0, i 0], ⟨63, true, 16, fs0 (i 7) 0 ++ (upto (fun q => fm0 (13 + 2 * q) (14 + 2 * q) (i 12) 1) j ++ fm0 (13 + 2 * j) (14 + 2 * j) (i 13) 2)⟩]), sl1 6 (.lin .i64 (13 - .ofNat (2 * j)) [(13, 0)]) (.lin .i64 (12 - .ofNat (2 * j)) [(13, 0)])⟩
noncomputable def Az0 : Pt := ⟨fx0 (.sl 13 0 1 1) (.lin .i64 15 [(13, 0)]) (i 3) (kf 0 0) (i 0) ++ [⟨63, true, 16, fs0 (i 8) 1⟩], sl1 6 (.lin .i64 15 [(13, 0)]) (.lin .i64 14 [(13, 0)])⟩
noncomputable def E0 : Pt := ⟨[⟨0, false, 0, [.str 0 0, i 1, i 0, i 1, .sl 4 0 11 11, .sl 3 0 2 2, .sl0, .str 1 102, i 1, i 1, i 1, .sl 2 0 17 17, .sl 1 0 3 3, .sl0]⟩,
  ⟨228, true, 3, [i 1, i 0, .str 0 0, i 1, i 1, .str 0 0, i 2, i 0, .str 1 102]⟩,
  ⟨113, true, 3, [i 12, i 0, i 0, i 1, i 0, i 0, i 39, i 13, i 0, i 41, i 6, i 0, i 1, i 0, i 0, i 40, i 14, i 0, i 1, i 1, i 0, i 22, i 2, i 0, i 2, i 0, i 0, i 12, i 0, i 0, i 1, i 1, i 0, i 39, i 7, i 0, i 46, i 1, i 0, i 39, i 6, i 0, i 48, i 0, i 0, i 2, i 0, i 0, i 48, i 0, i 0]⟩,
  ⟨228, true, 3, [i 2, i 0, .str 1 102, i 1, kf (0) 0, .str 0 0]⟩,
  ⟨113, true, 3, [i 2, i 0, i 0, i 14, i 0, i 0, i 37, i 1, i 0, i 24, i 0, i 0, i 22, i 0, i 0, i 2, i 0, i 0, i 1, i 1, i 0, i 46, i 1, i 0, i 14, i 0, i 0, i 12, i 0, i 0, i 48, i 0, i 0]⟩,
  ⟨0, false, 0, [i 1, i 2, i 3, i 3, i 4, i 5, i 6, i 7, i 8, i 0, i 9, i 10]⟩,
  ⟨0, false, 0, [.sl 11 0 0 0, .bool false, i 0, i 0, .sl 7 0 14 14, .sl0, i 14, i 12, i 11, .sl 5 0 12 12, .sl 0 0 2 2, i 3, kf (0) 0, .str 0 0, i 0, .bool false, .sl0, .sl0, i 0, .lin .i64 (19) [(13, 0)]]⟩,
  ⟨148, true, 11, [.bool true, i 0, i 0, .sl0, .sl0, .sl0, i 0, i 0, i 0, i 0, .sl0, .bool true, i 0, i 1, .sl0, .sl0, .sl0, i 0, i 0, i 0, i 0, .sl0, .bool true, i 0, i 1, .sl0, .sl0, .sl0, i 0, i 0, i 0, i 0, .sl0, .bool true, i 0, i 1, .sl0, .sl0, .sl0, i 0, i 0, i 0, i 0, .sl0, .bool true, i 0, i 1, .sl0, .sl0, .sl0, i 0, i 0, i 0, i 0, .sl0, .bool true, i 0, i 1, .sl0, .sl0, .sl0, i 0, i 0, i 0, i 0, .sl0, .bool true, i 0, i 1, .sl0, .sl0, .sl0, i 0, i 0, i 0, i 0, .sl0, .bool true, i 0, i 1, .sl0, .sl0, .sl0, i 0, i 0, i 0, i 0, .sl0, .bool true, i 0, i 1, .sl0, .sl0, .sl0, i 0, i 0, i 0, i 0, .sl0, .bool true, i 0, i 1, .sl0, .sl0, .sl0, i 0, i 0, i 0, i 0, .sl0, .bool true, i 0, i 1, .sl0, .sl0, .sl0, i 0, i 0, i 0, i 0, .sl0, .bool true, i 0, i 1, .sl 10 0 1 1, .sl0, .sl0, i 0, i 0, i 0, i 0, .sl0, .bool true, i 2, i 3, .sl 9 0 1 1, .sl0, .sl0, i 1, i 0, i 0, i 0, .sl0, .bool true, i 0, i 1, .sl 8 0 1 1, .sl0, .sl0, i 0, i 0, i 0, i 0, .sl0]⟩,
  ⟨93, true, 5, [.str 11 120209876282695187130773362, i 5, i 0, .str 0 0, i 13]⟩,
  ⟨93, true, 5, [.str 9 2074281273720252756069, i 5, i 0, .str 0 0, i 14]⟩,
  ⟨93, true, 5, [.str 1 102, i 5, i 0, .str 0 0, i 13]⟩,
  ⟨63, true, 16, []⟩], sl9 6 (.lin .i64 18 [(13, 0)]) (.lin .i64 17 [(13, 0)])⟩
noncomputable def rs0 : List (Nat × Nat) := [(0, 0), (1, 0), (2, 0), (3, 0), (4, 0), (5, 0), (6, 0), (8, 0), (67, 0), (83, 0), (95, 0), (162, 0), (225, 0), (267, 0), (272, 0)]
noncomputable def re0 : List (Nat × Nat) := [(0, 0), (1, 0), (2, 0), (3, 0), (4, 0), (5, 0), (6, 0), (8, 0), (9, 0), (10, 0), (11, 0), (13, 1)]
noncomputable def rd0 (j : Nat) : List (Nat × Nat) := ids (14 + 2 * j) ++ [(196 + 2 * j, 0), (272 + 2 * j, 0), (277 + 2 * j, 0)]
noncomputable def rt0 (j : Nat) : List (Nat × Nat) := ids (13 + 2 * j) ++ [(14 + 2 * j, 1)]
noncomputable def ru0 (j : Nat) : List (Nat × Nat) := ids (13 + 2 * j) ++ [(15 + 2 * j, 1)]
/-! how = 1: 14 blocks that stay -/
noncomputable def st1 : Pt := ⟨[⟨0, false, 0, [.str 0 0, i 1, i 0, i 2, .sl 5 0 30 30, .sl 3 0 5 5, .sl 4 0 1 1, .str 1 102, i 1, i 1, i 1, .sl 2 0 17 17, .sl 1 0 3 3, .sl0]⟩,
  ⟨228, true, 3, [i 1, i 0, .str 0 0, i 1, i 1, .str 0 0, i 2, i 0, .str 1 102]⟩,
  ⟨113, true, 3, [i 12, i 0, i 0, i 1, i 0, i 0, i 39, i 13, i 0, i 41, i 6, i 0, i 1, i 0, i 0, i 40, i 14, i 0, i 1, i 1, i 0, i 22, i 2, i 0, i 2, i 0, i 0, i 12, i 0, i 0, i 1, i 1, i 0, i 39, i 7, i 0, i 46, i 1, i 0, i 39, i 6, i 0, i 48, i 0, i 0, i 2, i 0, i 0, i 48, i 0, i 0]⟩,
  ⟨228, true, 3, [i 2, i 0, .str 1 102, i 2, i 0, .str 1 114, i 1, kf (0) 0, .str 0 0, i 2, i 0, .str 4 1851878757, i 2, i 0, .str 7 30792318992869221]⟩,
  ⟨220, true, 5, [i 6, i 15, i 16, i 0, i 0]⟩,
  ⟨113, true, 3, [i 2, i 0, i 0, i 14, i 0, i 0, i 37, i 1, i 0, i 24, i 0, i 0, i 2, i 0, i 0, i 24, i 1, i 0, i 22, i 0, i 0, i 2, i 0, i 0, i 1, i 2, i 0, i 46, i 1, i 0, i 8, i 0, i 0, i 23, i 1, i 0, i 7, i 0, i 0, i 2, i 0, i 0, i 7, i 0, i 0, i 40, i 26, i 0, i 14, i 1, i 0, i 12, i 1, i 0, i 26, i 3, i 0, i 12, i 1, i 0, i 26, i 4, i 0, i 39, i 6, i 0, i 8, i 0, i 0, i 23, i 1, i 0, i 7, i 0, i 0, i 40, i 26, i 0, i 22, i 1, i 0, i 14, i 0, i 0, i 12, i 0, i 0, i 48, i 0, i 0]⟩,
  ⟨0, false, 0, [i 1, i 2, i 3, i 3, i 4, i 5, i 6, i 7, i 8, i 0, i 9, i 10]⟩,
  ⟨0, false, 0, [.sl 10 0 1 1, .bool false, i 0, i 0, .sl 8 0 12 12, .sl0, i 12, i 12, i 11, .sl 6 0 12 12, .sl 0 0 2 2, i 0, i 0, .str 0 0, i 0, .bool false, .sl0, .sl0, i 0, i 0]⟩,
  ⟨148, true, 11, [.bool true, i 0, i 0, .sl0, .sl0, .sl0, i 0, i 0, i 0, i 0, .sl0, .bool true, i 0, i 1, .sl0, .sl0, .sl0, i 0, i 0, i 0, i 0, .sl0, .bool true, i 0, i 1, .sl0, .sl0, .sl0, i 0, i 0, i 0, i 0, .sl0, .bool true, i 0, i 1, .sl0, .sl0, .sl0, i 0, i 0, i 0, i 0, .sl0, .bool true, i 0, i 1, .sl0, .sl0, .sl0, i 0, i 0, i 0, i 0, .sl0, .bool true, i 0, i 1, .sl0, .sl0, .sl0, i 0, i 0, i 0, i 0, .sl0, .bool true, i 0, i 1, .sl0, .sl0, .sl0, i 0, i 0, i 0, i 0, .sl0, .bool true, i 0, i 1, .sl0, .sl0, .sl0, i 0, i 0, i 0, i 0, .sl0, .bool true, i 0, i 1, .sl0, .sl0, .sl0, i 0, i 0, i 0, i 0, .sl0, .bool true, i 0, i 1, .sl0, .sl0, .sl0, i 0, i 0, i 0, i 0, .sl0, .bool true, i 0, i 1, .sl0, .sl0, .sl0, i 0, i 0, i 0, i 0, .sl0, .bool true, i 0, i 1, .sl0, .sl0, .sl0, i 0, i 0, i 0, i 0, .sl0]⟩,
  ⟨45, true, 4, [i 6, i 0, .str 0 0, i 0, i 6, i 0, .str 0 0, i 0]⟩,
  ⟨63, true, 16, [i 1, i 0, i 0, i 0, i 0, .str 0 0, i 0, .sl 9 0 2 2, .sl0] ++ List.replicate 6 (i 0) ++ [.sl0]⟩], [.ptr 7 0, i 20000] ++ List.replicate 12 undefC⟩
noncomputable def st1b : Pt := ⟨st1.s, [.ptr 7 0, i 20000, undefC, undefC, .bool false] ++ List.replicate 9 undefC⟩
noncomputable def st1a : Pt := ⟨st1.s, sl0 7 (i 0)⟩
noncomputable def fx1 (c0 s x0 x1 x3 : CV) : List BC := [⟨0, false, 0, [.str 0 0, i 1, i 0, i 2, .sl 5 0 30 30, .sl 3 0 5 5, .sl 4 0 1 1, .str 1 102, i 1, i 1, i 1, .sl 2 0 17 17, .sl 1 0 3 3, .sl0]⟩,
  ⟨228, true, 3, [i 1, i 0, .str 0 0, i 1, i 1, .str 0 0, i 2, i 0, .str 1 102]⟩,
  ⟨113, true, 3, [i 12, i 0, i 0, i 1, i 0, i 0, i 39, i 13, i 0, i 41, i 6, i 0, i 1, i 0, i 0, i 40, i 14, i 0, i 1, i 1, i 0, i 22, i 2, i 0, i 2, i 0, i 0, i 12, i 0, i 0, i 1, i 1, i 0, i 39, i 7, i 0, i 46, i 1, i 0, i 39, i 6, i 0, i 48, i 0, i 0, i 2, i 0, i 0, i 48, i 0, i 0]⟩,
  ⟨228, true, 3, [i 2, i 0, .str 1 102, i 2, i 0, .str 1 114, i 1, kf (0) 0, .str 0 0, i 2, i 0, .str 4 1851878757, i 2, i 0, .str 7 30792318992869221]⟩,
  ⟨220, true, 5, [i 6, i 15, i 16, i 0, i 0]⟩,
  ⟨113, true, 3, [i 2, i 0, i 0, i 14, i 0, i 0, i 37, i 1, i 0, i 24, i 0, i 0, i 2, i 0, i 0, i 24, i 1, i 0, i 22, i 0, i 0, i 2, i 0, i 0, i 1, i 2, i 0, i 46, i 1, i 0, i 8, i 0, i 0, i 23, i 1, i 0, i 7, i 0, i 0, i 2, i 0, i 0, i 7, i 0, i 0, i 40, i 26, i 0, i 14, i 1, i 0, i 12, i 1, i 0, i 26, i 3, i 0, i 12, i 1, i 0, i 26, i 4, i 0, i 39, i 6, i 0, i 8, i 0, i 0, i 23, i 1, i 0, i 7, i 0, i 0, i 40, i 26, i 0, i 22, i 1, i 0, i 14, i 0, i 0, i 12, i 0, i 0, i 48, i 0, i 0]⟩,
  ⟨0, false, 0, [i 1, i 2, i 3, i 3, i 4, i 5, i 6, i 7, i 8, i 0, i 9, i 10]⟩,
  ⟨0, false, 0, [c0, .bool false, i 0, i 0, .sl 9 0 14 14, .sl0, i 14, i 12, i 11, .sl 6 0 12 12, .sl 0 0 2 2, i 0, i 0, .str 0 0, i 0, .bool false, .sl0, .sl0, i 0, s]⟩,
  ⟨45, true, 4, [i 0, i 0, .str 0 0, i 0, i 6, i 0, .str 0 0, i 0]⟩,
  ⟨148, true, 11, [.bool true, i 0, i 0, .sl0, .sl0, .sl0, i 0, i 0, i 0, i 0, .sl0, .bool true, i 0, i 1, .sl0, .sl0, .sl0, i 0, i 0, i 0, i 0, .sl0, .bool true, i 0, i 1, .sl0, .sl0, .sl0, i 0, i 0, i 0, i 0, .sl0, .bool true, i 0, i 1, .sl0, .sl0, .sl0, i 0, i 0, i 0, i 0, .sl0, .bool true, i 0, i 1, .sl0, .sl0, .sl0, i 0, i 0, i 0, i 0, .sl0, .bool true, i 0, i 1, .sl0, .sl0, .sl0, i 0, i 0, i 0, i 0, .sl0, .bool true, i 0, i 1, .sl0, .sl0, .sl0, i 0, i 0, i 0, i 0, .sl0, .bool true, i 0, i 1, .sl0, .sl0, .sl0, i 0, i 0, i 0, i 0, .sl0, .bool true, i 0, i 1, .sl0, .sl0, .sl0, i 0, i 0, i 0, i 0, .sl0, .bool true, i 0, i 1, .sl0, .sl0, .sl0, i 0, i 0, i 0, i 0, .sl0, .bool true, i 0, i 1, .sl0, .sl0, .sl0, i 0, i 0, i 0, i 0, .sl0, .bool true, i 0, i 1, .sl 12 0 2 2, .sl0, .sl0, i 0, i 0, i 0, i 0, .sl0, .bool true, i 2, i 3, .sl 11 0 1 1, .sl0, .sl0, i 1, i 0, i 0, i 0, .sl0, .bool true, i 0, i 1, .sl 10 0 1 1, .sl0, .sl0, i 0, i 0, i 0, i 0, .sl0]⟩,
  ⟨93, true, 5, [.str 11 120209876282695187130773362, i 5, i 0, .str 0 0, i 13]⟩,
  ⟨93, true, 5, [.str 9 2074281273720252756069, i 5, i 0, .str 0 0, i 14]⟩,
  ⟨93, true, 5, [.str 1 102, i 5, i 0, .str 0 0, i 13, .str 1 114, i 0, i 0, .str 0 0, i 0]⟩,
  ⟨45, true, 4, [x0, x1, .str 0 0, x3, i 0, i 0, .str 0 0, i 0, i 3, kf (0) 0, .str 0 0, i 0]⟩]
noncomputable def lt1 (q : Nat) : BC := ⟨45, true, 4, [i 3, kf (0) q, .str 0 0, i 0]⟩
noncomputable def su1 (q : Nat) (y : List CV) : BC := ⟨45, true, 4, [i 3, i 1, .str 0 0, i 0] ++ (y ++ ([i 0, i 0, .str 0 0, i 0, i 3, kf (-1) q, .str 0 0, i 0, i 3, i 1, .str 0 0, i 0]))⟩
noncomputable def sy1 : List CV := [i 5, i 0, .str 0 0, i 13]
noncomputable def fs1 (p : CV) (n : Nat) : List CV := [i 1, i 0, p, i 0, i 0, .str 0 0, i 0, .sl 8 0 2 2, .sl 13 0 n 3] ++ List.replicate 6 (i 0) ++ [.sl0]
noncomputable def fm1 (l s : Nat) (p : CV) (n : Nat) : List CV := [i 1, i 1, p, i 0, i 0, .str 0 0, i 0, .sl l 0 1 1, .sl s 0 n 5] ++ List.replicate 6 (i 0) ++ [.sl0]
noncomputable def ft1 (l : Nat) : List CV := [i 1, i 1, i 0, i 0, i 0, .str 0 0, i 0, .sl l 0 1 1, .sl0] ++ List.replicate 6 (i 0) ++ [.sl0]
noncomputable def D1 (j : Nat) : Pt := ⟨fx1 (.sl (15 + 2 * j) 0 (j + 2) (j + 2)) (i (10 + 11 * j)) (i 5) (i 0) (i 13) ++ (upto (fun q => [lt1 q, su1 q sy1]) j ++ [lt1 j, ⟨63, true, 16, fs1 (i 9) 0 ++ (upto (fun q => fm1 (14 + 2 * q) (15 + 2 * q) (i 12) 1) j ++ ft1 (14 + 2 * j))⟩]), sl1 7 (i (10 + 11 * j)) (i (9 + 11 * j))⟩
noncomputable def A1 (j : Nat) : Pt := ⟨fx1 (.sl (16 + 2 * j) 0 (j + 2) (j + 2)) (.lin .i64 (15 - .ofNat (2 * j)) [(13, 0)]) (i 5) (i 0) (i 13) ++ (upto (fun q => [lt1 q, su1 q sy1]) j ++ [lt1 j, su1 j [i 3, kf (-1) j, .str 0 0, i 0], ⟨63, true, 16, fs1 (i 9) 0 ++ (upto (fun q => fm1 (14 + 2 * q) (15 + 2 * q) (i 12) 1) j ++ fm1 (14 + 2 * j) (15 + 2 * j) (i 13) 2)⟩]), sl1 7 (.lin .i64 (15 - .ofNat (2 * j)) [(13, 0)]) (.lin .i64 (14 - .ofNat (2 * j)) [(13, 0)])⟩
noncomputable def Az1 : Pt := ⟨fx1 (.sl 14 0 1 1) (.lin .i64 17 [(13, 0)]) (i 3) (kf 0 0) (i 0) ++ [⟨63, true, 16, fs1 (i 10) 1⟩], sl1 7 (.lin .i64 17 [(13, 0)]) (.lin .i64 16 [(13, 0)])⟩
noncomputable def E1 : Pt := ⟨[⟨0, false, 0, [.str 0 0, i 1, i 0, i 2, .sl 5 0 30 30, .sl 3 0 5 5, .sl 4 0 1 1, .str 1 102, i 1, i 1, i 1, .sl 2 0 17 17, .sl 1 0 3 3, .sl0]⟩,
  ⟨228, true, 3, [i 1, i 0, .str 0 0, i 1, i 1, .str 0 0, i 2, i 0, .str 1 102]⟩,
  ⟨113, true, 3, [i 12, i 0, i 0, i 1, i 0, i 0, i 39, i 13, i 0, i 41, i 6, i 0, i 1, i 0, i 0, i 40, i 14, i 0, i 1, i 1, i 0, i 22, i 2, i 0, i 2, i 0, i 0, i 12, i 0, i 0, i 1, i 1, i 0, i 39, i 7, i 0, i 46, i 1, i 0, i 39, i 6, i 0, i 48, i 0, i 0, i 2, i 0, i 0, i 48, i 0, i 0]⟩,
  ⟨228, true, 3, [i 2, i 0, .str 1 102, i 2, i 0, .str 1 114, i 1, kf (0) 0, .str 0 0, i 2, i 0, .str 4 1851878757, i 2, i 0, .str 7 30792318992869221]⟩,
  ⟨220, true, 5, [i 6, i 15, i 16, i 0, i 0]⟩,
  ⟨113, true, 3, [i 2, i 0, i 0, i 14, i 0, i 0, i 37, i 1, i 0, i 24, i 0, i 0, i 2, i 0, i 0, i 24, i 1, i 0, i 22, i 0, i 0, i 2, i 0, i 0, i 1, i 2, i 0, i 46, i 1, i 0, i 8, i 0, i 0, i 23, i 1, i 0, i 7, i 0, i 0, i 2, i 0, i 0, i 7, i 0, i 0, i 40, i 26, i 0, i 14, i 1, i 0, i 12, i 1, i 0, i 26, i 3, i 0, i 12, i 1, i 0, i 26, i 4, i 0, i 39, i 6, i 0, i 8, i 0, i 0, i 23, i 1, i 0, i 7, i 0, i 0, i 40, i 26, i 0, i 22, i 1, i 0, i 14, i 0, i 0, i 12, i 0, i 0, i 48, i 0, i 0]⟩,
  ⟨0, false, 0, [i 1, i 2, i 3, i 3, i 4, i 5, i 6, i 7, i 8, i 0, i 9, i 10]⟩,
  ⟨0, false, 0, [.sl 12 0 0 0, .bool false, i 0, i 0, .sl 8 0 14 14, .sl0, i 14, i 12, i 11, .sl 6 0 12 12, .sl 0 0 2 2, i 3, kf (0) 0, .str 0 0, i 0, .bool false, .sl0, .sl0, i 0, .lin .i64 (28) [(13, 0)]]⟩,
  ⟨148, true, 11, [.bool true, i 0, i 0, .sl0, .sl0, .sl0, i 0, i 0, i 0, i 0, .sl0, .bool true, i 0, i 1, .sl0, .sl0, .sl0, i 0, i 0, i 0, i 0, .sl0, .bool true, i 0, i 1, .sl0, .sl0, .sl0, i 0, i 0, i 0, i 0, .sl0, .bool true, i 0, i 1, .sl0, .sl0, .sl0, i 0, i 0, i 0, i 0, .sl0, .bool true, i 0, i 1, .sl0, .sl0, .sl0, i 0, i 0, i 0, i 0, .sl0, .bool true, i 0, i 1, .sl0, .sl0, .sl0, i 0, i 0, i 0, i 0, .sl0, .bool true, i 0, i 1, .sl0, .sl0, .sl0, i 0, i 0, i 0, i 0, .sl0, .bool true, i 0, i 1, .sl0, .sl0, .sl0, i 0, i 0, i 0, i 0, .sl0, .bool true, i 0, i 1, .sl0, .sl0, .sl0, i 0, i 0, i 0, i 0, .sl0, .bool true, i 0, i 1, .sl0, .sl0, .sl0, i 0, i 0, i 0, i 0, .sl0, .bool true, i 0, i 1, .sl0, .sl0, .sl0, i 0, i 0, i 0, i 0, .sl0, .bool true, i 0, i 1, .sl 11 0 2 2, .sl0, .sl0, i 0, i 0, i 0, i 0, .sl0, .bool true, i 2, i 3, .sl 10 0 1 1, .sl0, .sl0, i 1, i 0, i 0, i 0, .sl0, .bool true, i 0, i 1, .sl 9 0 1 1, .sl0, .sl0, i 0, i 0, i 0, i 0, .sl0]⟩,
  ⟨93, true, 5, [.str 11 120209876282695187130773362, i 5, i 0, .str 0 0, i 13]⟩,
  ⟨93, true, 5, [.str 9 2074281273720252756069, i 5, i 0, .str 0 0, i 14]⟩,
  ⟨93, true, 5, [.str 1 102, i 5, i 0, .str 0 0, i 13, .str 1 114, i 3, kf (0) 0, .str 0 0, i 0]⟩,
  ⟨63, true, 16, []⟩], sl9 7 (.lin .i64 27 [(13, 0)]) (.lin .i64 26 [(13, 0)])⟩
noncomputable def rs1 : List (Nat × Nat) := [(0, 0), (1, 0), (2, 0), (3, 0), (4, 0), (5, 0), (6, 0), (7, 0), (9, 0), (68, 0), (84, 0), (96, 0), (240, 0), (303, 0), (345, 0), (350, 0)]
noncomputable def re1 : List (Nat × Nat) := [(0, 0), (1, 0), (2, 0), (3, 0), (4, 0), (5, 0), (6, 0), (7, 0), (9, 0), (10, 0), (11, 0), (12, 0), (14, 1)]
noncomputable def rd1 (j : Nat) : List (Nat × Nat) := ids (15 + 2 * j) ++ [(197 + 2 * j, 0), (273 + 2 * j, 0), (278 + 2 * j, 0)]
noncomputable def rt1 (j : Nat) : List (Nat × Nat) := ids (14 + 2 * j) ++ [(15 + 2 * j, 1)]
noncomputable def ru1 (j : Nat) : List (Nat × Nat) := ids (14 + 2 * j) ++ [(16 + 2 * j, 1)]
end Go.Proofs.YtapognhadfncmaaGreatDoor
