/-
  DERIVED. GIVEN WITH THE SEED: THE CARDS: each row of YtebhipeeogoagaaGreatDoorRows.lean that lists a variable, with what it lists TIED to the program's text (the seventh form; the later family's looks); each row that meets fmt, with fmt's text TOLD by the authors' own Lean function (tested against real Go, not proved from fmt's source: count such statements apart). THE CARD IS WHAT COUNTS. Prove the row's statement (the work); the ties are given (YtebhipeeogoagaaGreatDoorTie.lean); close each card by the builder's one call (the guide's Derived/Test/ToyasCard.lean, 'card_holds'). Laid BY PROGRAM, IN A SANDBOX (cutbox-door.mjs). By AI agents, Wed Nov 11 2026. No macro, syntax, notation, axiom, sorry.
-/
import Derived.Test.YtebhipeeogoagaaGreatDoorRows
import GoSem.ClaimSeven
namespace Go.Proofs.YtebhipeeogoagaaGreatDoor
namespace Rows

/-- THE TIED CARD OF 'recensionlaw13.NormOrders'. -/
def normOrdersCard : Claim7 := { stood := { row := normOrdersRow, standIns := [], harness := (true, "9389c5d2c30d1fa474b95e3a82abe2c683101699368e596064d7a09e2709df14"), looks := true }, kinds := [], alts := [], laidByText := true, laidKinds := [.data, .handle, .data, .data, .pinned, .pinned], laidTests := true, laidLooks := .later }
def NormOrdersCardSaid : Prop := Claim7.holds Tryz.pinned (.plain (OpenSpec.ofChange normOrdersSpec)) normOrdersCard

/-- THE SECOND FORM's CARD OF 'recensionlaw13.NormOrders'. -/
def normOrdersUptoCard : Claim7 := { stood := { row := normOrdersUptoRow, standIns := [], harness := (true, "9389c5d2c30d1fa474b95e3a82abe2c683101699368e596064d7a09e2709df14"), looks := true }, kinds := [], alts := [], laidByText := true, laidKinds := [.data, .handle, .data, .data, .pinned, .pinned], laidTests := true, laidLooks := .later }
def NormOrdersUptoCardSaid : Prop := Claim7.holds Tryz.pinned (.plain (OpenSpec.upto normOrdersSpec)) normOrdersUptoCard
end Rows
end Go.Proofs.YtebhipeeogoagaaGreatDoor
