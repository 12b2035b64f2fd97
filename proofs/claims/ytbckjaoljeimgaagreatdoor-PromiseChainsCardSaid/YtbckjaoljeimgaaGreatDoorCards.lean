/-
  DERIVED. GIVEN WITH THE SEED: THE CARDS: each row of YtbckjaoljeimgaaGreatDoorRows.lean that lists a variable, with what it lists TIED to the program's text (the seventh form; the later family's looks); each row that meets fmt, with fmt's text TOLD by the authors' own Lean function (tested against real Go, not proved from fmt's source: count such statements apart). THE CARD IS WHAT COUNTS. Prove the row's statement (the work); the ties are given (YtbckjaoljeimgaaGreatDoorTie.lean); close each card by the builder's one call (the guide's Derived/Test/ToyasCard.lean, 'card_holds'). Laid BY PROGRAM, IN A SANDBOX (cutbox-door.mjs). By AI agents, Wed Nov 11 2026. No macro, syntax, notation, axiom, sorry.
-/
import Derived.Test.YtbckjaoljeimgaaGreatDoorRows
import GoSem.ClaimSeven
namespace Go.Proofs.YtbckjaoljeimgaaGreatDoor
namespace Rows

/-- THE TIED CARD OF 'knapsacklaw32.MachineFull'. -/
def machineFullCard : Claim7 := { stood := { row := machineFullRow, standIns := [], harness := (true, "5be27dadfe86adbadf9519445363520cc479fddbc4d89ae026e2c639f6aeb857"), looks := true }, kinds := [], alts := [], laidByText := true, laidKinds := [.data, .data, .data, .data, .sentinel, .sentinel, .pinned], laidTests := true, laidLooks := .later }
def MachineFullCardSaid : Prop := Claim7.holds Tryz.pinned (.plain (OpenSpec.ofChange machineFullSpec)) machineFullCard

/-- THE TIED CARD OF 'knapsacklaw33.PromiseChains'. -/
def promiseChainsCard : Claim7 := { stood := { row := promiseChainsRow, standIns := [], harness := (true, "5be27dadfe86adbadf9519445363520cc479fddbc4d89ae026e2c639f6aeb857"), looks := true }, kinds := [], alts := [], laidByText := true, laidKinds := [.data, .data, .data, .data, .sentinel, .sentinel, .pinned], laidTests := true, laidLooks := .later }
def PromiseChainsCardSaid : Prop := Claim7.holds Tryz.pinned (.plain (OpenSpec.ofChange promiseChainsSpec)) promiseChainsCard

/-- THE SECOND FORM's CARD OF 'knapsacklaw32.MachineFull'. -/
def machineFullUptoCard : Claim7 := { stood := { row := machineFullUptoRow, standIns := [], harness := (true, "5be27dadfe86adbadf9519445363520cc479fddbc4d89ae026e2c639f6aeb857"), looks := true }, kinds := [], alts := [], laidByText := true, laidKinds := [.data, .data, .data, .data, .sentinel, .sentinel, .pinned], laidTests := true, laidLooks := .later }
def MachineFullUptoCardSaid : Prop := Claim7.holds Tryz.pinned (.plain (OpenSpec.upto machineFullSpec)) machineFullUptoCard

/-- THE SECOND FORM's CARD OF 'knapsacklaw33.PromiseChains'. -/
def promiseChainsUptoCard : Claim7 := { stood := { row := promiseChainsUptoRow, standIns := [], harness := (true, "5be27dadfe86adbadf9519445363520cc479fddbc4d89ae026e2c639f6aeb857"), looks := true }, kinds := [], alts := [], laidByText := true, laidKinds := [.data, .data, .data, .data, .sentinel, .sentinel, .pinned], laidTests := true, laidLooks := .later }
def PromiseChainsUptoCardSaid : Prop := Claim7.holds Tryz.pinned (.plain (OpenSpec.upto promiseChainsSpec)) promiseChainsUptoCard
end Rows
end Go.Proofs.YtbckjaoljeimgaaGreatDoor
