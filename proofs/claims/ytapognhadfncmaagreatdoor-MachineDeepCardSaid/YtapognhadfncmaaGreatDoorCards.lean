/-
  DERIVED. GIVEN WITH THE SEED: THE CARDS: each row of YtapognhadfncmaaGreatDoorRows.lean that lists a variable, with what it lists TIED to the program's text (the seventh form; the later family's looks); each row that meets fmt, with fmt's text TOLD by the authors' own Lean function (tested against real Go, not proved from fmt's source: count such statements apart). THE CARD IS WHAT COUNTS. Prove the row's statement (the work); the ties are given (YtapognhadfncmaaGreatDoorTie.lean); close each card by the builder's one call (the guide's Derived/Test/ToyasCard.lean, 'card_holds'). Laid BY PROGRAM, IN A SANDBOX (cutbox-door.mjs). By AI agents, Wed Nov 11 2026. No macro, syntax, notation, axiom, sorry.
-/
import Derived.Test.YtapognhadfncmaaGreatDoorRows
import GoSem.ClaimSeven
namespace Go.Proofs.YtapognhadfncmaaGreatDoor
namespace Rows

/-- THE TIED CARD OF 'knapsacklaw32.MachineDeep'. -/
def machineDeepCard : Claim7 := { stood := { row := machineDeepRow, standIns := [], harness := (true, "785e48d3e7d410e7a0eeb1d6e5852715feb8dedc4430c7a05bb8d7fd1bd546dc"), looks := true }, kinds := [], alts := [], laidByText := true, laidKinds := [.data, .data, .data, .data, .sentinel, .sentinel, .pinned], laidTests := true, laidLooks := .later }
def MachineDeepCardSaid : Prop := Claim7.holds Tryz.pinned (.plain (OpenSpec.ofChange machineDeepSpec)) machineDeepCard

/-- THE TIED CARD OF 'knapsacklaw32.MachineFull'. -/
def machineFullCard : Claim7 := { stood := { row := machineFullRow, standIns := [], harness := (true, "785e48d3e7d410e7a0eeb1d6e5852715feb8dedc4430c7a05bb8d7fd1bd546dc"), looks := true }, kinds := [], alts := [], laidByText := true, laidKinds := [.data, .data, .data, .data, .sentinel, .sentinel, .pinned], laidTests := true, laidLooks := .later }
def MachineFullCardSaid : Prop := Claim7.holds Tryz.pinned (.plain (OpenSpec.ofChange machineFullSpec)) machineFullCard

/-- THE TIED CARD OF 'knapsacklaw33.PromiseAwaits'. -/
def promiseAwaitsCard : Claim7 := { stood := { row := promiseAwaitsRow, standIns := [], harness := (true, "785e48d3e7d410e7a0eeb1d6e5852715feb8dedc4430c7a05bb8d7fd1bd546dc"), looks := true }, kinds := [], alts := [], laidByText := true, laidKinds := [.data, .data, .data, .data, .sentinel, .sentinel, .pinned], laidTests := true, laidLooks := .later }
def PromiseAwaitsCardSaid : Prop := Claim7.holds Tryz.pinned (.plain (OpenSpec.ofChange promiseAwaitsSpec)) promiseAwaitsCard

/-- THE SECOND FORM's CARD OF 'knapsacklaw32.MachineDeep'. -/
def machineDeepUptoCard : Claim7 := { stood := { row := machineDeepUptoRow, standIns := [], harness := (true, "785e48d3e7d410e7a0eeb1d6e5852715feb8dedc4430c7a05bb8d7fd1bd546dc"), looks := true }, kinds := [], alts := [], laidByText := true, laidKinds := [.data, .data, .data, .data, .sentinel, .sentinel, .pinned], laidTests := true, laidLooks := .later }
def MachineDeepUptoCardSaid : Prop := Claim7.holds Tryz.pinned (.plain (OpenSpec.upto machineDeepSpec)) machineDeepUptoCard

/-- THE SECOND FORM's CARD OF 'knapsacklaw32.MachineFull'. -/
def machineFullUptoCard : Claim7 := { stood := { row := machineFullUptoRow, standIns := [], harness := (true, "785e48d3e7d410e7a0eeb1d6e5852715feb8dedc4430c7a05bb8d7fd1bd546dc"), looks := true }, kinds := [], alts := [], laidByText := true, laidKinds := [.data, .data, .data, .data, .sentinel, .sentinel, .pinned], laidTests := true, laidLooks := .later }
def MachineFullUptoCardSaid : Prop := Claim7.holds Tryz.pinned (.plain (OpenSpec.upto machineFullSpec)) machineFullUptoCard

/-- THE SECOND FORM's CARD OF 'knapsacklaw33.PromiseAwaits'. -/
def promiseAwaitsUptoCard : Claim7 := { stood := { row := promiseAwaitsUptoRow, standIns := [], harness := (true, "785e48d3e7d410e7a0eeb1d6e5852715feb8dedc4430c7a05bb8d7fd1bd546dc"), looks := true }, kinds := [], alts := [], laidByText := true, laidKinds := [.data, .data, .data, .data, .sentinel, .sentinel, .pinned], laidTests := true, laidLooks := .later }
def PromiseAwaitsUptoCardSaid : Prop := Claim7.holds Tryz.pinned (.plain (OpenSpec.upto promiseAwaitsSpec)) promiseAwaitsUptoCard
end Rows
end Go.Proofs.YtapognhadfncmaaGreatDoor
