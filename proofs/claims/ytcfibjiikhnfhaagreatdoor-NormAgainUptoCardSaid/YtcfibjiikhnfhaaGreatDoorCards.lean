/-
  DERIVED. GIVEN WITH THE SEED: THE CARDS: each row of YtcfibjiikhnfhaaGreatDoorRows.lean that lists a variable, with what it lists TIED to the program's text (the seventh form; the later family's looks); each row that meets fmt, with fmt's text TOLD by the authors' own Lean function (tested against real Go, not proved from fmt's source: count such statements apart). THE CARD IS WHAT COUNTS. Prove the row's statement (the work); the ties are given (YtcfibjiikhnfhaaGreatDoorTie.lean); close each card by the builder's one call (the guide's Derived/Test/ToyasCard.lean, 'card_holds'). Laid BY PROGRAM, IN A SANDBOX (cutbox-door.mjs). By AI agents, Wed Nov 11 2026. No macro, syntax, notation, axiom, sorry.
-/
import Derived.Test.YtcfibjiikhnfhaaGreatDoorRows
import GoSem.ClaimSeven
namespace Go.Proofs.YtcfibjiikhnfhaaGreatDoor
namespace Rows

/-- THE TIED CARD OF 'recensionlaw13.NormAgain'. -/
def normAgainCard : Claim7 := { stood := { row := normAgainRow, standIns := [], harness := (true, "0728e9da12292130ab8586bfd9a0dc5ca0a499b882aa65af9c1bb8f11b5d35d7"), looks := true }, kinds := [], alts := [], laidByText := true, laidKinds := [.data, .handle, .data, .data, .pinned, .pinned], laidTests := true, laidLooks := .later }
def NormAgainCardSaid : Prop := Claim7.holds Tryz.pinned (.plain (OpenSpec.ofChange normAgainSpec)) normAgainCard

/-- THE SECOND FORM's CARD OF 'recensionlaw13.NormAgain'. -/
def normAgainUptoCard : Claim7 := { stood := { row := normAgainUptoRow, standIns := [], harness := (true, "0728e9da12292130ab8586bfd9a0dc5ca0a499b882aa65af9c1bb8f11b5d35d7"), looks := true }, kinds := [], alts := [], laidByText := true, laidKinds := [.data, .handle, .data, .data, .pinned, .pinned], laidTests := true, laidLooks := .later }
def NormAgainUptoCardSaid : Prop := Claim7.holds Tryz.pinned (.plain (OpenSpec.upto normAgainSpec)) normAgainUptoCard
end Rows
end Go.Proofs.YtcfibjiikhnfhaaGreatDoor
