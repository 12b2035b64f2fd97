/-
  DERIVED. GIVEN WITH THE SEED: THE CARDS: each row of YtmhbagaljonheaaGreatDoorRows.lean that lists a variable, with what it lists TIED to the program's text (the seventh form; the later family's looks); each row that meets fmt, with fmt's text TOLD by the authors' own Lean function (tested against real Go, not proved from fmt's source: count such statements apart). THE CARD IS WHAT COUNTS. Prove the row's statement (the work); the ties are given (YtmhbagaljonheaaGreatDoorTie.lean); close each card by the builder's one call (the guide's Derived/Test/ToyasCard.lean, 'card_holds'). Laid BY PROGRAM, IN A SANDBOX (cutbox-door.mjs). By AI agents, Wed Nov 11 2026. No macro, syntax, notation, axiom, sorry.
-/
import Derived.Test.YtmhbagaljonheaaGreatDoorRows
import GoSem.ClaimSeven
namespace Go.Proofs.YtmhbagaljonheaaGreatDoor
namespace Rows

/-- THE TIED CARD OF 'knapsacklaw32.MachineErrors'. -/
def machineErrorsCard : Claim7 := { stood := { row := machineErrorsRow, standIns := [], harness := (true, "ab9a556efb875ba3d22a2be84cb6598a0aa863f07a9ab79eb5693b2967b8e9bb"), looks := true }, kinds := [], alts := [], laidByText := true, laidKinds := [.data, .data, .data, .data, .sentinel, .sentinel, .pinned], laidTests := true, laidLooks := .later }
def MachineErrorsCardSaid : Prop := Claim7.holds Tryz.pinned (.plain (OpenSpec.ofChange machineErrorsSpec)) machineErrorsCard

/-- THE TIED CARD OF 'knapsacklaw33.PromiseOnce'. -/
def promiseOnceCard : Claim7 := { stood := { row := promiseOnceRow, standIns := [], harness := (true, "ab9a556efb875ba3d22a2be84cb6598a0aa863f07a9ab79eb5693b2967b8e9bb"), looks := true }, kinds := [], alts := [], laidByText := true, laidKinds := [.data, .data, .data, .data, .sentinel, .sentinel, .pinned], laidTests := true, laidLooks := .later }
def PromiseOnceCardSaid : Prop := Claim7.holds Tryz.pinned (.plain (OpenSpec.ofChange promiseOnceSpec)) promiseOnceCard

/-- THE TIED CARD OF 'knapsacklaw33.PromiseErrors'. -/
def promiseErrorsCard : Claim7 := { stood := { row := promiseErrorsRow, standIns := [], harness := (true, "ab9a556efb875ba3d22a2be84cb6598a0aa863f07a9ab79eb5693b2967b8e9bb"), looks := true }, kinds := [], alts := [], laidByText := true, laidKinds := [.data, .data, .data, .data, .sentinel, .sentinel, .pinned], laidTests := true, laidLooks := .later }
def PromiseErrorsCardSaid : Prop := Claim7.holds Tryz.pinned (.plain (OpenSpec.ofChange promiseErrorsSpec)) promiseErrorsCard

/-- THE SECOND FORM's CARD OF 'knapsacklaw32.MachineErrors'. -/
def machineErrorsUptoCard : Claim7 := { stood := { row := machineErrorsUptoRow, standIns := [], harness := (true, "ab9a556efb875ba3d22a2be84cb6598a0aa863f07a9ab79eb5693b2967b8e9bb"), looks := true }, kinds := [], alts := [], laidByText := true, laidKinds := [.data, .data, .data, .data, .sentinel, .sentinel, .pinned], laidTests := true, laidLooks := .later }
def MachineErrorsUptoCardSaid : Prop := Claim7.holds Tryz.pinned (.plain (OpenSpec.upto machineErrorsSpec)) machineErrorsUptoCard

/-- THE SECOND FORM's CARD OF 'knapsacklaw33.PromiseOnce'. -/
def promiseOnceUptoCard : Claim7 := { stood := { row := promiseOnceUptoRow, standIns := [], harness := (true, "ab9a556efb875ba3d22a2be84cb6598a0aa863f07a9ab79eb5693b2967b8e9bb"), looks := true }, kinds := [], alts := [], laidByText := true, laidKinds := [.data, .data, .data, .data, .sentinel, .sentinel, .pinned], laidTests := true, laidLooks := .later }
def PromiseOnceUptoCardSaid : Prop := Claim7.holds Tryz.pinned (.plain (OpenSpec.upto promiseOnceSpec)) promiseOnceUptoCard

/-- THE SECOND FORM's CARD OF 'knapsacklaw33.PromiseErrors'. -/
def promiseErrorsUptoCard : Claim7 := { stood := { row := promiseErrorsUptoRow, standIns := [], harness := (true, "ab9a556efb875ba3d22a2be84cb6598a0aa863f07a9ab79eb5693b2967b8e9bb"), looks := true }, kinds := [], alts := [], laidByText := true, laidKinds := [.data, .data, .data, .data, .sentinel, .sentinel, .pinned], laidTests := true, laidLooks := .later }
def PromiseErrorsUptoCardSaid : Prop := Claim7.holds Tryz.pinned (.plain (OpenSpec.upto promiseErrorsSpec)) promiseErrorsUptoCard
end Rows
end Go.Proofs.YtmhbagaljonheaaGreatDoor
