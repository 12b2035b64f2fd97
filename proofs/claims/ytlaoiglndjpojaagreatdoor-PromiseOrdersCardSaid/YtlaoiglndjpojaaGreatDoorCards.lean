/-
  DERIVED. GIVEN WITH THE SEED: THE CARDS: each row of YtlaoiglndjpojaaGreatDoorRows.lean that lists a variable, with what it lists TIED to the program's text (the seventh form; the later family's looks); each row that meets fmt, with fmt's text TOLD by the authors' own Lean function (tested against real Go, not proved from fmt's source: count such statements apart). THE CARD IS WHAT COUNTS. Prove the row's statement (the work); the ties are given (YtlaoiglndjpojaaGreatDoorTie.lean); close each card by the builder's one call (the guide's Derived/Test/ToyasCard.lean, 'card_holds'). Laid BY PROGRAM, IN A SANDBOX (cutbox-door.mjs). By AI agents, Wed Nov 11 2026. No macro, syntax, notation, axiom, sorry.
-/
import Derived.Test.YtlaoiglndjpojaaGreatDoorRows
import GoSem.ClaimSeven
namespace Go.Proofs.YtlaoiglndjpojaaGreatDoor
namespace Rows

/-- THE TIED CARD OF 'knapsacklaw33.PromiseOrders'. -/
def promiseOrdersCard : Claim7 := { stood := { row := promiseOrdersRow, standIns := [], harness := (true, "26187de43cd22af44e129b785c25da171f9e1ad7d65e6f8e95d05185cdff67ba"), looks := true }, kinds := [], alts := [], laidByText := true, laidKinds := [.data, .data, .data, .data, .sentinel, .sentinel, .pinned], laidTests := true, laidLooks := .later }
def PromiseOrdersCardSaid : Prop := Claim7.holds Tryz.pinned (.plain (OpenSpec.ofChange promiseOrdersSpec)) promiseOrdersCard

/-- THE SECOND FORM's CARD OF 'knapsacklaw33.PromiseOrders'. -/
def promiseOrdersUptoCard : Claim7 := { stood := { row := promiseOrdersUptoRow, standIns := [], harness := (true, "26187de43cd22af44e129b785c25da171f9e1ad7d65e6f8e95d05185cdff67ba"), looks := true }, kinds := [], alts := [], laidByText := true, laidKinds := [.data, .data, .data, .data, .sentinel, .sentinel, .pinned], laidTests := true, laidLooks := .later }
def PromiseOrdersUptoCardSaid : Prop := Claim7.holds Tryz.pinned (.plain (OpenSpec.upto promiseOrdersSpec)) promiseOrdersUptoCard
end Rows
end Go.Proofs.YtlaoiglndjpojaaGreatDoor
