/-
  DERIVED. GIVEN WITH THE SEED: THE CARDS: each row of YtngmgjodcnknoaaGreatDoorRows.lean that lists a variable, with what it lists TIED to the program's text (the seventh form; the later family's looks); each row that meets fmt, with fmt's text TOLD by the authors' own Lean function (tested against real Go, not proved from fmt's source: count such statements apart). THE CARD IS WHAT COUNTS. Prove the row's statement (the work); the ties are given (YtngmgjodcnknoaaGreatDoorTie.lean); close each card by the builder's one call (the guide's Derived/Test/ToyasCard.lean, 'card_holds'). Laid BY PROGRAM, IN A SANDBOX (cutbox-door.mjs). By AI agents, Wed Nov 11 2026. No macro, syntax, notation, axiom, sorry.
-/
import Derived.Test.YtngmgjodcnknoaaGreatDoorRows
import GoSem.ClaimSeven
namespace Go.Proofs.YtngmgjodcnknoaaGreatDoor
namespace Rows

/-- THE TIED CARD OF 'recensionlaw29.IndexTells'. -/
def indexTellsCard : Claim7 := { stood := { row := indexTellsRow, standIns := [], harness := (true, "c94981919f34eab941313729d2e172238e856cef0481626f8353ae5b8c5c2ed7"), looks := false }, kinds := [], alts := [], laidByText := true, laidKinds := [.data, .data, .data], laidTests := true, laidLooks := .later }
def IndexTellsCardSaid : Prop := Claim7.holds Tryz.pinned (.plain (OpenSpec.ofChange indexTellsSpec)) indexTellsCard

/-- THE TIED CARD OF 'recensionlaw29.IndexSums'. -/
def indexSumsCard : Claim7 := { stood := { row := indexSumsRow, standIns := [], harness := (true, "c94981919f34eab941313729d2e172238e856cef0481626f8353ae5b8c5c2ed7"), looks := false }, kinds := [], alts := [], laidByText := true, laidKinds := [.data, .data, .data], laidTests := true, laidLooks := .later }
def IndexSumsCardSaid : Prop := Claim7.holds Tryz.pinned (.plain (OpenSpec.ofChange indexSumsSpec)) indexSumsCard

/-- THE TIED CARD OF 'recensionlaw29.IndexParts'. -/
def indexPartsCard : Claim7 := { stood := { row := indexPartsRow, standIns := [], harness := (true, "c94981919f34eab941313729d2e172238e856cef0481626f8353ae5b8c5c2ed7"), looks := false }, kinds := [], alts := [], laidByText := true, laidKinds := [.data, .data, .data], laidTests := true, laidLooks := .later }
def IndexPartsCardSaid : Prop := Claim7.holds Tryz.pinned (.plain (OpenSpec.ofChange indexPartsSpec)) indexPartsCard

/-- THE SECOND FORM's CARD OF 'recensionlaw29.IndexTells'. -/
def indexTellsUptoCard : Claim7 := { stood := { row := indexTellsUptoRow, standIns := [], harness := (true, "c94981919f34eab941313729d2e172238e856cef0481626f8353ae5b8c5c2ed7"), looks := false }, kinds := [], alts := [], laidByText := true, laidKinds := [.data, .data, .data], laidTests := true, laidLooks := .later }
def IndexTellsUptoCardSaid : Prop := Claim7.holds Tryz.pinned (.plain (OpenSpec.upto indexTellsSpec)) indexTellsUptoCard

/-- THE SECOND FORM's CARD OF 'recensionlaw29.IndexSums'. -/
def indexSumsUptoCard : Claim7 := { stood := { row := indexSumsUptoRow, standIns := [], harness := (true, "c94981919f34eab941313729d2e172238e856cef0481626f8353ae5b8c5c2ed7"), looks := false }, kinds := [], alts := [], laidByText := true, laidKinds := [.data, .data, .data], laidTests := true, laidLooks := .later }
def IndexSumsUptoCardSaid : Prop := Claim7.holds Tryz.pinned (.plain (OpenSpec.upto indexSumsSpec)) indexSumsUptoCard

/-- THE SECOND FORM's CARD OF 'recensionlaw29.IndexParts'. -/
def indexPartsUptoCard : Claim7 := { stood := { row := indexPartsUptoRow, standIns := [], harness := (true, "c94981919f34eab941313729d2e172238e856cef0481626f8353ae5b8c5c2ed7"), looks := false }, kinds := [], alts := [], laidByText := true, laidKinds := [.data, .data, .data], laidTests := true, laidLooks := .later }
def IndexPartsUptoCardSaid : Prop := Claim7.holds Tryz.pinned (.plain (OpenSpec.upto indexPartsSpec)) indexPartsUptoCard
end Rows
end Go.Proofs.YtngmgjodcnknoaaGreatDoor
