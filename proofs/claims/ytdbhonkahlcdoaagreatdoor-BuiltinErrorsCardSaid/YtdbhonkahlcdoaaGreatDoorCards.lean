/-
  DERIVED. GIVEN WITH THE SEED: THE CARDS: each row of YtdbhonkahlcdoaaGreatDoorRows.lean that lists a variable, with what it lists TIED to the program's text (the seventh form; the later family's looks); each row that meets fmt, with fmt's text TOLD by the authors' own Lean function (tested against real Go, not proved from fmt's source: count such statements apart). THE CARD IS WHAT COUNTS. Prove the row's statement (the work); the ties are given (YtdbhonkahlcdoaaGreatDoorTie.lean); close each card by the builder's one call (the guide's Derived/Test/ToyasCard.lean, 'card_holds'). Laid BY PROGRAM, IN A SANDBOX (cutbox-door.mjs). By AI agents, Wed Nov 11 2026. No macro, syntax, notation, axiom, sorry.
-/
import Derived.Test.YtdbhonkahlcdoaaGreatDoorRows
import GoSem.ClaimSeven
namespace Go.Proofs.YtdbhonkahlcdoaaGreatDoor
namespace Rows

/-- THE TIED CARD OF 'knapsacklaw34.BuiltinPromises'. -/
def builtinPromisesCard : Claim7 := { stood := { row := builtinPromisesRow, standIns := [], harness := (true, "223cd9f3b59872e1e1b6f4ec2403e70d12c65a40920755c202bc7e7290273451"), looks := true }, kinds := [], alts := [], laidByText := true, laidKinds := [.sentinel, .sentinel, .data, .data, .data, .pinned, .data, .data, .listed], laidTests := true, laidLooks := .later }
def BuiltinPromisesCardSaid : Prop := Claim7.holds Tryz.pinned (.plain (OpenSpec.ofChange builtinPromisesSpec)) builtinPromisesCard

/-- THE TIED CARD OF 'knapsacklaw34.BuiltinErrors'. -/
def builtinErrorsCard : Claim7 := { stood := { row := builtinErrorsRow, standIns := [], harness := (true, "223cd9f3b59872e1e1b6f4ec2403e70d12c65a40920755c202bc7e7290273451"), looks := true }, kinds := [], alts := [], laidByText := true, laidKinds := [.sentinel, .sentinel, .data, .data, .data, .pinned, .data, .data, .listed], laidTests := true, laidLooks := .later }
def BuiltinErrorsCardSaid : Prop := Claim7.holds Tryz.pinned (.plain (OpenSpec.ofChange builtinErrorsSpec)) builtinErrorsCard

/-- THE TIED CARD OF 'knapsacklaw34.BuiltinNames'. -/
def builtinNamesCard : Claim7 := { stood := { row := builtinNamesRow, standIns := [], harness := (true, "223cd9f3b59872e1e1b6f4ec2403e70d12c65a40920755c202bc7e7290273451"), looks := true }, kinds := [], alts := [], laidByText := true, laidKinds := [.sentinel, .sentinel, .data, .data, .data, .pinned, .data, .data, .listed], laidTests := true, laidLooks := .later }
def BuiltinNamesCardSaid : Prop := Claim7.holds Tryz.pinned (.plain (OpenSpec.ofChange builtinNamesSpec)) builtinNamesCard

/-- THE SECOND FORM's CARD OF 'knapsacklaw34.BuiltinPromises'. -/
def builtinPromisesUptoCard : Claim7 := { stood := { row := builtinPromisesUptoRow, standIns := [], harness := (true, "223cd9f3b59872e1e1b6f4ec2403e70d12c65a40920755c202bc7e7290273451"), looks := true }, kinds := [], alts := [], laidByText := true, laidKinds := [.sentinel, .sentinel, .data, .data, .data, .pinned, .data, .data, .listed], laidTests := true, laidLooks := .later }
def BuiltinPromisesUptoCardSaid : Prop := Claim7.holds Tryz.pinned (.plain (OpenSpec.upto builtinPromisesSpec)) builtinPromisesUptoCard

/-- THE SECOND FORM's CARD OF 'knapsacklaw34.BuiltinErrors'. -/
def builtinErrorsUptoCard : Claim7 := { stood := { row := builtinErrorsUptoRow, standIns := [], harness := (true, "223cd9f3b59872e1e1b6f4ec2403e70d12c65a40920755c202bc7e7290273451"), looks := true }, kinds := [], alts := [], laidByText := true, laidKinds := [.sentinel, .sentinel, .data, .data, .data, .pinned, .data, .data, .listed], laidTests := true, laidLooks := .later }
def BuiltinErrorsUptoCardSaid : Prop := Claim7.holds Tryz.pinned (.plain (OpenSpec.upto builtinErrorsSpec)) builtinErrorsUptoCard

/-- THE SECOND FORM's CARD OF 'knapsacklaw34.BuiltinNames'. -/
def builtinNamesUptoCard : Claim7 := { stood := { row := builtinNamesUptoRow, standIns := [], harness := (true, "223cd9f3b59872e1e1b6f4ec2403e70d12c65a40920755c202bc7e7290273451"), looks := true }, kinds := [], alts := [], laidByText := true, laidKinds := [.sentinel, .sentinel, .data, .data, .data, .pinned, .data, .data, .listed], laidTests := true, laidLooks := .later }
def BuiltinNamesUptoCardSaid : Prop := Claim7.holds Tryz.pinned (.plain (OpenSpec.upto builtinNamesSpec)) builtinNamesUptoCard
end Rows
end Go.Proofs.YtdbhonkahlcdoaaGreatDoor
