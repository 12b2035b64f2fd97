/-
  DERIVED. GIVEN WITH THE SEED: THE CARDS: each row of YtcceopgaiffkmaaGreatDoorRows.lean that lists a variable, with what it lists TIED to the program's text (the seventh form; the later family's looks); each row that meets fmt, with fmt's text TOLD by the authors' own Lean function (tested against real Go, not proved from fmt's source: count such statements apart). THE CARD IS WHAT COUNTS. Prove the row's statement (the work); the ties are given (YtcceopgaiffkmaaGreatDoorTie.lean); close each card by the builder's one call (the guide's Derived/Test/ToyasCard.lean, 'card_holds'). Laid BY PROGRAM, IN A SANDBOX (cutbox-door.mjs). By AI agents, Wed Nov 11 2026. No macro, syntax, notation, axiom, sorry.
-/
import Derived.Test.YtcceopgaiffkmaaGreatDoorRows
import GoSem.ClaimSeven
namespace Go.Proofs.YtcceopgaiffkmaaGreatDoor
namespace Rows

/-- THE TIED CARD OF 'knapsacklaw33.PromisePlays'. -/
def promisePlaysCard : Claim7 := { stood := { row := promisePlaysRow, standIns := [], harness := (true, "a5433a4378f19fd4dd9286856c879a3dc346107171da8a413ab4d66bb524b8f0"), looks := true }, kinds := [], alts := [], laidByText := true, laidKinds := [.data, .data, .data, .data, .sentinel, .sentinel, .pinned], laidTests := true, laidLooks := .later }
def PromisePlaysCardSaid : Prop := Claim7.holds Tryz.pinned (.plain (OpenSpec.ofChange promisePlaysSpec)) promisePlaysCard

/-- THE SECOND FORM's CARD OF 'knapsacklaw33.PromisePlays'. -/
def promisePlaysUptoCard : Claim7 := { stood := { row := promisePlaysUptoRow, standIns := [], harness := (true, "a5433a4378f19fd4dd9286856c879a3dc346107171da8a413ab4d66bb524b8f0"), looks := true }, kinds := [], alts := [], laidByText := true, laidKinds := [.data, .data, .data, .data, .sentinel, .sentinel, .pinned], laidTests := true, laidLooks := .later }
def PromisePlaysUptoCardSaid : Prop := Claim7.holds Tryz.pinned (.plain (OpenSpec.upto promisePlaysSpec)) promisePlaysUptoCard
end Rows
end Go.Proofs.YtcceopgaiffkmaaGreatDoor
