/-
  DERIVED. GIVEN WITH THE SEED: THE CARDS: each row of YtaikcgmgjchfmaaGreatDoorRows.lean that lists a variable, with what it lists TIED to the program's text (the seventh form; the later family's looks); each row that meets fmt, with fmt's text TOLD by the authors' own Lean function (tested against real Go, not proved from fmt's source: count such statements apart). THE CARD IS WHAT COUNTS. Prove the row's statement (the work); the ties are given (YtaikcgmgjchfmaaGreatDoorTie.lean); close each card by the builder's one call (the guide's Derived/Test/ToyasCard.lean, 'card_holds'). Laid BY PROGRAM, IN A SANDBOX (cutbox-door.mjs). By AI agents, Wed Nov 11 2026. No macro, syntax, notation, axiom, sorry.
-/
import Derived.Test.YtaikcgmgjchfmaaGreatDoorRows
import GoSem.ClaimSeven
namespace Go.Proofs.YtaikcgmgjchfmaaGreatDoor
namespace Rows

/-- THE TIED CARD OF 'knapsacklaw32.MachineLoops'. -/
def machineLoopsCard : Claim7 := { stood := { row := machineLoopsRow, standIns := [], harness := (true, "af7f07354714123183f047dbc3b79f7382ea9945e49603ad1dbac1fe4737a45b"), looks := true }, kinds := [], alts := [], laidByText := true, laidKinds := [.data, .data, .data, .data, .sentinel, .sentinel, .pinned], laidTests := true, laidLooks := .later }
def MachineLoopsCardSaid : Prop := Claim7.holds Tryz.pinned (.plain (OpenSpec.ofChange machineLoopsSpec)) machineLoopsCard

/-- THE TIED CARD OF 'knapsacklaw32.MachineFull'. -/
def machineFullCard : Claim7 := { stood := { row := machineFullRow, standIns := [], harness := (true, "af7f07354714123183f047dbc3b79f7382ea9945e49603ad1dbac1fe4737a45b"), looks := true }, kinds := [], alts := [], laidByText := true, laidKinds := [.data, .data, .data, .data, .sentinel, .sentinel, .pinned], laidTests := true, laidLooks := .later }
def MachineFullCardSaid : Prop := Claim7.holds Tryz.pinned (.plain (OpenSpec.ofChange machineFullSpec)) machineFullCard

/-- THE TIED CARD OF 'knapsacklaw32.MachineHosts'. -/
def machineHostsCard : Claim7 := { stood := { row := machineHostsRow, standIns := [], harness := (true, "af7f07354714123183f047dbc3b79f7382ea9945e49603ad1dbac1fe4737a45b"), looks := true }, kinds := [], alts := [], laidByText := true, laidKinds := [.data, .data, .data, .data, .sentinel, .sentinel, .pinned], laidTests := true, laidLooks := .later }
def MachineHostsCardSaid : Prop := Claim7.holds Tryz.pinned (.plain (OpenSpec.ofChange machineHostsSpec)) machineHostsCard

/-- THE SECOND FORM's CARD OF 'knapsacklaw32.MachineLoops'. -/
def machineLoopsUptoCard : Claim7 := { stood := { row := machineLoopsUptoRow, standIns := [], harness := (true, "af7f07354714123183f047dbc3b79f7382ea9945e49603ad1dbac1fe4737a45b"), looks := true }, kinds := [], alts := [], laidByText := true, laidKinds := [.data, .data, .data, .data, .sentinel, .sentinel, .pinned], laidTests := true, laidLooks := .later }
def MachineLoopsUptoCardSaid : Prop := Claim7.holds Tryz.pinned (.plain (OpenSpec.upto machineLoopsSpec)) machineLoopsUptoCard

/-- THE SECOND FORM's CARD OF 'knapsacklaw32.MachineFull'. -/
def machineFullUptoCard : Claim7 := { stood := { row := machineFullUptoRow, standIns := [], harness := (true, "af7f07354714123183f047dbc3b79f7382ea9945e49603ad1dbac1fe4737a45b"), looks := true }, kinds := [], alts := [], laidByText := true, laidKinds := [.data, .data, .data, .data, .sentinel, .sentinel, .pinned], laidTests := true, laidLooks := .later }
def MachineFullUptoCardSaid : Prop := Claim7.holds Tryz.pinned (.plain (OpenSpec.upto machineFullSpec)) machineFullUptoCard

/-- THE SECOND FORM's CARD OF 'knapsacklaw32.MachineHosts'. -/
def machineHostsUptoCard : Claim7 := { stood := { row := machineHostsUptoRow, standIns := [], harness := (true, "af7f07354714123183f047dbc3b79f7382ea9945e49603ad1dbac1fe4737a45b"), looks := true }, kinds := [], alts := [], laidByText := true, laidKinds := [.data, .data, .data, .data, .sentinel, .sentinel, .pinned], laidTests := true, laidLooks := .later }
def MachineHostsUptoCardSaid : Prop := Claim7.holds Tryz.pinned (.plain (OpenSpec.upto machineHostsSpec)) machineHostsUptoCard
end Rows
end Go.Proofs.YtaikcgmgjchfmaaGreatDoor
