/-
  DERIVED. GIVEN WITH THE SEED: THE CARDS: each row of YtmmopcceabdecaaGreatDoorRows.lean that lists a variable, with what it lists TIED to the program's text (the seventh form; the later family's looks); each row that meets fmt, with fmt's text TOLD by the authors' own Lean function (tested against real Go, not proved from fmt's source: count such statements apart). THE CARD IS WHAT COUNTS. Prove the row's statement (the work); the ties are given (YtmmopcceabdecaaGreatDoorTie.lean); close each card by the builder's one call (the guide's Derived/Test/ToyasCard.lean, 'card_holds'). Laid BY PROGRAM, IN A SANDBOX (cutbox-door.mjs). By AI agents, Wed Nov 11 2026. No macro, syntax, notation, axiom, sorry.
-/
import Derived.Test.YtmmopcceabdecaaGreatDoorRows
import GoSem.ClaimSeven
namespace Go.Proofs.YtmmopcceabdecaaGreatDoor
namespace Rows

/-- THE TIED CARD OF 'recensionlaw23.ValueSingles'. -/
def valueSinglesCard : Claim7 := { stood := { row := valueSinglesRow, standIns := [], harness := (true, "d1dd41f42f89af2ed8ae023d5f46904dcf8a14bf2f720c350a20cec56b4568e7"), looks := true }, kinds := [], alts := [], laidByText := true, laidKinds := [.data, .data, .data, .data, .sentinel, .sentinel, .pinned], laidTests := true, laidLooks := .later }
def ValueSinglesCardSaid : Prop := Claim7.holds Tryz.pinned (.plain (OpenSpec.ofChange valueSinglesSpec)) valueSinglesCard

/-- THE SECOND FORM's CARD OF 'recensionlaw23.ValueSingles'. -/
def valueSinglesUptoCard : Claim7 := { stood := { row := valueSinglesUptoRow, standIns := [], harness := (true, "d1dd41f42f89af2ed8ae023d5f46904dcf8a14bf2f720c350a20cec56b4568e7"), looks := true }, kinds := [], alts := [], laidByText := true, laidKinds := [.data, .data, .data, .data, .sentinel, .sentinel, .pinned], laidTests := true, laidLooks := .later }
def ValueSinglesUptoCardSaid : Prop := Claim7.holds Tryz.pinned (.plain (OpenSpec.upto valueSinglesSpec)) valueSinglesUptoCard
end Rows
end Go.Proofs.YtmmopcceabdecaaGreatDoor
