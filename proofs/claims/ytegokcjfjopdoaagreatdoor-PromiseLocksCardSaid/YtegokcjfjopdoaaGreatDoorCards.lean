/-
  DERIVED. GIVEN WITH THE SEED: THE CARDS: each row of YtegokcjfjopdoaaGreatDoorRows.lean that lists a variable, with what it lists TIED to the program's text (the seventh form; the later family's looks); each row that meets fmt, with fmt's text TOLD by the authors' own Lean function (tested against real Go, not proved from fmt's source: count such statements apart). THE CARD IS WHAT COUNTS. Prove the row's statement (the work); the ties are given (YtegokcjfjopdoaaGreatDoorTie.lean); close each card by the builder's one call (the guide's Derived/Test/ToyasCard.lean, 'card_holds'). Laid BY PROGRAM, IN A SANDBOX (cutbox-door.mjs). By AI agents, Wed Nov 11 2026. No macro, syntax, notation, axiom, sorry.
-/
import Derived.Test.YtegokcjfjopdoaaGreatDoorRows
import GoSem.ClaimSeven
namespace Go.Proofs.YtegokcjfjopdoaaGreatDoor
namespace Rows

/-- THE TIED CARD OF 'knapsacklaw32.MachineErrors'. -/
def machineErrorsCard : Claim7 := { stood := { row := machineErrorsRow, standIns := [], harness := (true, "49219d140e4d04aac074dff9863523959b51c5c8c46d6828c5df8be418733035"), looks := true }, kinds := [], alts := [], laidByText := true, laidKinds := [.data, .data, .data, .data, .sentinel, .sentinel, .pinned], laidTests := true, laidLooks := .later }
def MachineErrorsCardSaid : Prop := Claim7.holds Tryz.pinned (.plain (OpenSpec.ofChange machineErrorsSpec)) machineErrorsCard

/-- THE TIED CARD OF 'knapsacklaw33.PromiseLocks'. -/
def promiseLocksCard : Claim7 := { stood := { row := promiseLocksRow, standIns := [], harness := (true, "49219d140e4d04aac074dff9863523959b51c5c8c46d6828c5df8be418733035"), looks := true }, kinds := [], alts := [], laidByText := true, laidKinds := [.data, .data, .data, .data, .sentinel, .sentinel, .pinned], laidTests := true, laidLooks := .later }
def PromiseLocksCardSaid : Prop := Claim7.holds Tryz.pinned (.plain (OpenSpec.ofChange promiseLocksSpec)) promiseLocksCard

/-- THE TIED CARD OF 'knapsacklaw33.PromiseOrders'. -/
def promiseOrdersCard : Claim7 := { stood := { row := promiseOrdersRow, standIns := [], harness := (true, "49219d140e4d04aac074dff9863523959b51c5c8c46d6828c5df8be418733035"), looks := true }, kinds := [], alts := [], laidByText := true, laidKinds := [.data, .data, .data, .data, .sentinel, .sentinel, .pinned], laidTests := true, laidLooks := .later }
def PromiseOrdersCardSaid : Prop := Claim7.holds Tryz.pinned (.plain (OpenSpec.ofChange promiseOrdersSpec)) promiseOrdersCard

/-- THE TIED CARD OF 'knapsacklaw33.PromiseOnce'. -/
def promiseOnceCard : Claim7 := { stood := { row := promiseOnceRow, standIns := [], harness := (true, "49219d140e4d04aac074dff9863523959b51c5c8c46d6828c5df8be418733035"), looks := true }, kinds := [], alts := [], laidByText := true, laidKinds := [.data, .data, .data, .data, .sentinel, .sentinel, .pinned], laidTests := true, laidLooks := .later }
def PromiseOnceCardSaid : Prop := Claim7.holds Tryz.pinned (.plain (OpenSpec.ofChange promiseOnceSpec)) promiseOnceCard

/-- THE TIED CARD OF 'knapsacklaw33.PromiseErrors'. -/
def promiseErrorsCard : Claim7 := { stood := { row := promiseErrorsRow, standIns := [], harness := (true, "49219d140e4d04aac074dff9863523959b51c5c8c46d6828c5df8be418733035"), looks := true }, kinds := [], alts := [], laidByText := true, laidKinds := [.data, .data, .data, .data, .sentinel, .sentinel, .pinned], laidTests := true, laidLooks := .later }
def PromiseErrorsCardSaid : Prop := Claim7.holds Tryz.pinned (.plain (OpenSpec.ofChange promiseErrorsSpec)) promiseErrorsCard

/-- THE SECOND FORM's CARD OF 'knapsacklaw32.MachineErrors'. -/
def machineErrorsUptoCard : Claim7 := { stood := { row := machineErrorsUptoRow, standIns := [], harness := (true, "49219d140e4d04aac074dff9863523959b51c5c8c46d6828c5df8be418733035"), looks := true }, kinds := [], alts := [], laidByText := true, laidKinds := [.data, .data, .data, .data, .sentinel, .sentinel, .pinned], laidTests := true, laidLooks := .later }
def MachineErrorsUptoCardSaid : Prop := Claim7.holds Tryz.pinned (.plain (OpenSpec.upto machineErrorsSpec)) machineErrorsUptoCard

/-- THE SECOND FORM's CARD OF 'knapsacklaw33.PromiseLocks'. -/
def promiseLocksUptoCard : Claim7 := { stood := { row := promiseLocksUptoRow, standIns := [], harness := (true, "49219d140e4d04aac074dff9863523959b51c5c8c46d6828c5df8be418733035"), looks := true }, kinds := [], alts := [], laidByText := true, laidKinds := [.data, .data, .data, .data, .sentinel, .sentinel, .pinned], laidTests := true, laidLooks := .later }
def PromiseLocksUptoCardSaid : Prop := Claim7.holds Tryz.pinned (.plain (OpenSpec.upto promiseLocksSpec)) promiseLocksUptoCard

/-- THE SECOND FORM's CARD OF 'knapsacklaw33.PromiseOrders'. -/
def promiseOrdersUptoCard : Claim7 := { stood := { row := promiseOrdersUptoRow, standIns := [], harness := (true, "49219d140e4d04aac074dff9863523959b51c5c8c46d6828c5df8be418733035"), looks := true }, kinds := [], alts := [], laidByText := true, laidKinds := [.data, .data, .data, .data, .sentinel, .sentinel, .pinned], laidTests := true, laidLooks := .later }
def PromiseOrdersUptoCardSaid : Prop := Claim7.holds Tryz.pinned (.plain (OpenSpec.upto promiseOrdersSpec)) promiseOrdersUptoCard

/-- THE SECOND FORM's CARD OF 'knapsacklaw33.PromiseOnce'. -/
def promiseOnceUptoCard : Claim7 := { stood := { row := promiseOnceUptoRow, standIns := [], harness := (true, "49219d140e4d04aac074dff9863523959b51c5c8c46d6828c5df8be418733035"), looks := true }, kinds := [], alts := [], laidByText := true, laidKinds := [.data, .data, .data, .data, .sentinel, .sentinel, .pinned], laidTests := true, laidLooks := .later }
def PromiseOnceUptoCardSaid : Prop := Claim7.holds Tryz.pinned (.plain (OpenSpec.upto promiseOnceSpec)) promiseOnceUptoCard

/-- THE SECOND FORM's CARD OF 'knapsacklaw33.PromiseErrors'. -/
def promiseErrorsUptoCard : Claim7 := { stood := { row := promiseErrorsUptoRow, standIns := [], harness := (true, "49219d140e4d04aac074dff9863523959b51c5c8c46d6828c5df8be418733035"), looks := true }, kinds := [], alts := [], laidByText := true, laidKinds := [.data, .data, .data, .data, .sentinel, .sentinel, .pinned], laidTests := true, laidLooks := .later }
def PromiseErrorsUptoCardSaid : Prop := Claim7.holds Tryz.pinned (.plain (OpenSpec.upto promiseErrorsSpec)) promiseErrorsUptoCard
end Rows
end Go.Proofs.YtegokcjfjopdoaaGreatDoor
