/-
  DERIVED. GIVEN WITH THE SEED: THE CARDS: each row of YtfoclfefjcnllaaGreatDoorRows.lean that lists a variable, with what it lists TIED to the program's text (the seventh form; the later family's looks); each row that meets fmt, with fmt's text TOLD by the authors' own Lean function (tested against real Go, not proved from fmt's source: count such statements apart). THE CARD IS WHAT COUNTS. Prove the row's statement (the work); the ties are given (YtfoclfefjcnllaaGreatDoorTie.lean); close each card by the builder's one call (the guide's Derived/Test/ToyasCard.lean, 'card_holds'). Laid BY PROGRAM, IN A SANDBOX (cutbox-door.mjs). By AI agents, Wed Nov 11 2026. No macro, syntax, notation, axiom, sorry.
-/
import Derived.Test.YtfoclfefjcnllaaGreatDoorRows
import GoSem.ClaimSeven
namespace Go.Proofs.YtfoclfefjcnllaaGreatDoor
namespace Rows

/-- THE TIED CARD OF 'recensionlaw21.QparseDeep'. -/
def qparseDeepCard : Claim7 := { stood := { row := qparseDeepRow, standIns := [], harness := (true, "0d6f7eae22d68897c8836130a5c59cfd7b16230cadae19bcc1cc774ec5a919eb"), looks := true }, kinds := [], alts := [], laidByText := true, laidKinds := [.data, .data, .data, .data, .handle, .sentinel, .sentinel, .listed, .data, .pinned], laidTests := true, laidLooks := .later }
def QparseDeepCardSaid : Prop := Claim7.holds Tryz.pinned (.plain (OpenSpec.ofChange qparseDeepSpec)) qparseDeepCard

/-- THE TIED CARD OF 'recensionlaw21.QparseBinds'. -/
def qparseBindsCard : Claim7 := { stood := { row := qparseBindsRow, standIns := [], harness := (true, "0d6f7eae22d68897c8836130a5c59cfd7b16230cadae19bcc1cc774ec5a919eb"), looks := true }, kinds := [], alts := [], laidByText := true, laidKinds := [.data, .data, .data, .data, .handle, .sentinel, .sentinel, .listed, .data, .pinned], laidTests := true, laidLooks := .later }
def QparseBindsCardSaid : Prop := Claim7.holds Tryz.pinned (.plain (OpenSpec.ofChange qparseBindsSpec)) qparseBindsCard

/-- THE TIED CARD OF 'recensionlaw21.QparseSame'. -/
def qparseSameCard : Claim7 := { stood := { row := qparseSameRow, standIns := [], harness := (true, "0d6f7eae22d68897c8836130a5c59cfd7b16230cadae19bcc1cc774ec5a919eb"), looks := true }, kinds := [], alts := [], laidByText := true, laidKinds := [.data, .data, .data, .data, .handle, .sentinel, .sentinel, .listed, .data, .pinned], laidTests := true, laidLooks := .later }
def QparseSameCardSaid : Prop := Claim7.holds Tryz.pinned (.plain (OpenSpec.ofChange qparseSameSpec)) qparseSameCard

/-- THE SECOND FORM's CARD OF 'recensionlaw21.QparseDeep'. -/
def qparseDeepUptoCard : Claim7 := { stood := { row := qparseDeepUptoRow, standIns := [], harness := (true, "0d6f7eae22d68897c8836130a5c59cfd7b16230cadae19bcc1cc774ec5a919eb"), looks := true }, kinds := [], alts := [], laidByText := true, laidKinds := [.data, .data, .data, .data, .handle, .sentinel, .sentinel, .listed, .data, .pinned], laidTests := true, laidLooks := .later }
def QparseDeepUptoCardSaid : Prop := Claim7.holds Tryz.pinned (.plain (OpenSpec.upto qparseDeepSpec)) qparseDeepUptoCard

/-- THE SECOND FORM's CARD OF 'recensionlaw21.QparseBinds'. -/
def qparseBindsUptoCard : Claim7 := { stood := { row := qparseBindsUptoRow, standIns := [], harness := (true, "0d6f7eae22d68897c8836130a5c59cfd7b16230cadae19bcc1cc774ec5a919eb"), looks := true }, kinds := [], alts := [], laidByText := true, laidKinds := [.data, .data, .data, .data, .handle, .sentinel, .sentinel, .listed, .data, .pinned], laidTests := true, laidLooks := .later }
def QparseBindsUptoCardSaid : Prop := Claim7.holds Tryz.pinned (.plain (OpenSpec.upto qparseBindsSpec)) qparseBindsUptoCard

/-- THE SECOND FORM's CARD OF 'recensionlaw21.QparseSame'. -/
def qparseSameUptoCard : Claim7 := { stood := { row := qparseSameUptoRow, standIns := [], harness := (true, "0d6f7eae22d68897c8836130a5c59cfd7b16230cadae19bcc1cc774ec5a919eb"), looks := true }, kinds := [], alts := [], laidByText := true, laidKinds := [.data, .data, .data, .data, .handle, .sentinel, .sentinel, .listed, .data, .pinned], laidTests := true, laidLooks := .later }
def QparseSameUptoCardSaid : Prop := Claim7.holds Tryz.pinned (.plain (OpenSpec.upto qparseSameSpec)) qparseSameUptoCard
end Rows
end Go.Proofs.YtfoclfefjcnllaaGreatDoor
