/- PromiseChains: the law's first calls: Begin, Finish, Own, New: runs, seen by the kernel. -/
import Derived.Test.YtbckjaoljeimgaaGreatDoorChU
import Derived.KernelRfl
namespace Go.Proofs.YtbckjaoljeimgaaGreatDoor
open Go Go.Ev
set_option maxRecDepth 1000000
set_option maxHeartbeats 400000000
noncomputable def b0S : List BC := [⟨0, false, 0, [.str 0 0, i 1, i 0, i 1, .sl 8 0 10 10, .sl 7 0 3 3, .sl0, .str 0 0, i 2, i 1, i 1, .sl 2 0 6 6, .sl 1 0 1 1, .sl0, .str 0 0, i 2, i 1, i 1, .sl 4 0 6 6, .sl 3 0 1 1, .sl0, .str 0 0, i 2, i 1, i 1, .sl 6 0 6 6, .sl 5 0 1 1, .sl0]⟩,
 ⟨211, true, 3, [i 1, i 1, .str 0 0]⟩,
 ⟨107, true, 3, [i 12, i 0, i 0, i 1, i 0, i 0, i 39, i 6, i 0, i 48, i 0, i 0, i 2, i 0, i 0, i 48, i 0, i 0]⟩,
 ⟨211, true, 3, [i 1, i 2, .str 0 0]⟩,
 ⟨107, true, 3, [i 12, i 0, i 0, i 1, i 0, i 0, i 39, i 8, i 0, i 49, i 0, i 0, i 2, i 0, i 0, i 48, i 0, i 0]⟩,
 ⟨211, true, 3, [i 1, i 3, .str 0 0]⟩,
 ⟨107, true, 3, [i 12, i 0, i 0, i 1, i 0, i 0, i 39, i 7, i 0, i 48, i 0, i 0, i 2, i 0, i 0, i 48, i 0, i 0]⟩,
 ⟨211, true, 3, [i 2, i 0, .str 3 7302757, i 2, i 0, .str 3 6447460, i 2, i 0, .str 4 1735356260]⟩,
 ⟨107, true, 3, [i 2, i 0, i 0, i 14, i 0, i 0, i 37, i 1, i 0, i 24, i 0, i 0, i 37, i 2, i 0, i 24, i 1, i 0, i 37, i 3, i 0, i 24, i 2, i 0, i 12, i 0, i 0, i 48, i 0, i 0]⟩,
 ⟨0, false, 0, [i 9, i 10, i 11, i 11, i 12, i 13, i 14, i 15, i 16, i 0, i 17, i 18]⟩,
 ⟨132, true, 11, [.bool true, i 0, i 0, .sl0, .sl0, .sl0, i 0, i 0, i 0, i 0, .sl0, .bool true, i 0, i 9, .sl0, .sl0, .sl0, i 0, i 0, i 0, i 0, .sl0, .bool true, i 0, i 9, .sl0, .sl0, .sl0, i 0, i 0, i 0, i 0, .sl0, .bool true, i 0, i 9, .sl0, .sl0, .sl0, i 0, i 0, i 0, i 0, .sl0, .bool true, i 0, i 9, .sl0, .sl0, .sl0, i 0, i 0, i 0, i 0, .sl0, .bool true, i 0, i 9, .sl0, .sl0, .sl0, i 0, i 0, i 0, i 0, .sl0, .bool true, i 0, i 9, .sl0, .sl0, .sl0, i 0, i 0, i 0, i 0, .sl0, .bool true, i 0, i 9, .sl0, .sl0, .sl0, i 0, i 0, i 0, i 0, .sl0, .bool true, i 0, i 9, .sl0, .sl0, .sl0, i 0, i 0, i 0, i 0, .sl0, .bool true, i 0, i 9, .sl0, .sl0, .sl0, i 0, i 0, i 0, i 0, .sl0, .bool true, i 0, i 9, .sl0, .sl0, .sl0, i 0, i 0, i 0, i 0, .sl0, .bool true, i 0, i 9, .sl0, .sl0, .sl0, i 0, i 0, i 0, i 0, .sl0]⟩,
 ⟨0, false, 0, [.sl 13 0 1 1, .bool false, i 9, i 1, .sl 10 0 12 12, .sl0, i 12, i 20, i 19, .sl 9 0 12 12, .sl 0 0 4 4, .sl0, i 0, i 0, .str 0 0, i 0, .bool false, i 0]⟩,
 ⟨42, true, 4, [i 6, i 0, .str 0 0, i 0]⟩,
 ⟨55, true, 16, [i 1, i 0, i 0, i 0, i 0, .str 0 0, i 0, .sl 12 0 1 1, .sl0, i 0, i 0, i 0, i 0, i 0, i 0, .sl0]⟩]
noncomputable def b1S : List BC := fxB ++ [wB 0 .sl0, slB [], frB]
noncomputable def scr : CV := .str 77 115146789823811802664235318438380614615336401352733708794192241719929130091027533617427819375738403511495221481484588819017903353764574966111376705492056740703137852385182042202837103419
noncomputable def hgA : List CV := [scr, .agg [i 9, i 1]]
noncomputable def hgR : Res := runTo cK 14 0 143 ⟨ivC, []⟩ hgA [] [(1392, 0), (1412, 0), (1429, 0), (1450, 0), (1467, 0), (1488, 0), (1505, 0), (1513, 0), (1524, 0), (1740, 0), (1824, 0), (1829, 0), (1839, 0), (1842, 0)] (.tup [.ptr 11 0, .bool true]) b0S
noncomputable def hfA : List CV := [.ptr 11 0, i 500]
noncomputable def hfL : List (Nat × Nat) := [(0, 0), (1, 0), (2, 0), (3, 0), (4, 0), (5, 0), (6, 0), (7, 0), (8, 0), (9, 0), (72, 0), (169, 0), (268, 0), (341, 0), (11, 0), (259, 0), (13, 1)]
noncomputable def hfR : Res := runTo cK 15 0 143 ⟨ivC, []⟩ hfA b0S hfL (.bool true) b1S
noncomputable def ownA (l c : Nat) : List CV := [.ptr 14 2, i 20, .str l c]
noncomputable def own (l c x : Nat) : Res := runTo cK 16 15 143 ⟨ivC, []⟩ (ownA l c) b1S (ids 17) (.tup [.agg (fnC x), .bool true]) b1S
noncomputable def newA : List CV := [.ptr 14 2]
noncomputable def newL : List (Nat × Nat) := ids 15 ++ [(21, 0), (16, 0)]
noncomputable def new : Res := runTo cK 17 15 143 ⟨ivC, []⟩ newA b1S newL (.tup [.agg (refC 0), i 0]) (cT 0 (hs 0))
theorem hd1 : hgR = .ok := by kernel_rfl
theorem hd2 : hfR = .ok := by kernel_rfl
theorem own1 : own 3 7302757 21 = .ok := by kernel_rfl
theorem own2 : own 3 6447460 22 = .ok := by kernel_rfl
theorem own3 : own 4 1735356260 23 = .ok := by kernel_rfl
theorem new0 : new = .ok := by kernel_rfl
end Go.Proofs.YtbckjaoljeimgaaGreatDoor
