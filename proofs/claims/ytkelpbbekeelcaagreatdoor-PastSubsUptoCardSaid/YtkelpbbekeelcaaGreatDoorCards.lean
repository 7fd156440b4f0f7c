/-
  DERIVED. GIVEN WITH THE SEED: THE CARDS: each row of YtkelpbbekeelcaaGreatDoorRows.lean that lists a variable, with what it lists TIED to the program's text (the seventh form; the later family's looks); each row that meets fmt, with fmt's text TOLD by the authors' own Lean function (tested against real Go, not proved from fmt's source: count such statements apart). THE CARD IS WHAT COUNTS. Prove the row's statement (the work); the ties are given (YtkelpbbekeelcaaGreatDoorTie.lean); close each card by the builder's one call (the guide's Derived/Test/ToyasCard.lean, 'card_holds'). Laid BY PROGRAM, IN A SANDBOX (cutbox-door.mjs). By AI agents, Wed Nov 11 2026. No macro, syntax, notation, axiom, sorry.
-/
import Derived.Test.YtkelpbbekeelcaaGreatDoorRows
import GoSem.ClaimSeven
namespace Go.Proofs.YtkelpbbekeelcaaGreatDoor
namespace Rows

/-- THE TIED CARD OF 'recensionlaw16.PastHistory'. -/
def pastHistoryCard : Claim7 := { stood := { row := pastHistoryRow, standIns := [], harness := (true, "5ec2697e5f766d2ae05f229abd16b7528ea32892b339dd0bd1e99200e1ca4299"), looks := true }, kinds := [], alts := [], laidByText := true, laidKinds := [.data, .data, .data, .handle], laidTests := true, laidLooks := .later }
def PastHistoryCardSaid : Prop := Claim7.holds Tryz.pinned (.plain (OpenSpec.ofChange pastHistorySpec)) pastHistoryCard

/-- THE TIED CARD OF 'recensionlaw16.PastParts'. -/
def pastPartsCard : Claim7 := { stood := { row := pastPartsRow, standIns := [], harness := (true, "5ec2697e5f766d2ae05f229abd16b7528ea32892b339dd0bd1e99200e1ca4299"), looks := true }, kinds := [], alts := [], laidByText := true, laidKinds := [.data, .data, .data, .handle], laidTests := true, laidLooks := .later }
def PastPartsCardSaid : Prop := Claim7.holds Tryz.pinned (.plain (OpenSpec.ofChange pastPartsSpec)) pastPartsCard

/-- THE TIED CARD OF 'recensionlaw16.PastLives'. -/
def pastLivesCard : Claim7 := { stood := { row := pastLivesRow, standIns := [], harness := (true, "5ec2697e5f766d2ae05f229abd16b7528ea32892b339dd0bd1e99200e1ca4299"), looks := true }, kinds := [], alts := [], laidByText := true, laidKinds := [.data, .data, .data, .handle], laidTests := true, laidLooks := .later }
def PastLivesCardSaid : Prop := Claim7.holds Tryz.pinned (.plain (OpenSpec.ofChange pastLivesSpec)) pastLivesCard

/-- THE TIED CARD OF 'recensionlaw16.PastSubs'. -/
def pastSubsCard : Claim7 := { stood := { row := pastSubsRow, standIns := [], harness := (true, "5ec2697e5f766d2ae05f229abd16b7528ea32892b339dd0bd1e99200e1ca4299"), looks := true }, kinds := [], alts := [], laidByText := true, laidKinds := [.data, .data, .data, .handle], laidTests := true, laidLooks := .later }
def PastSubsCardSaid : Prop := Claim7.holds Tryz.pinned (.plain (OpenSpec.ofChange pastSubsSpec)) pastSubsCard

/-- THE SECOND FORM's CARD OF 'recensionlaw16.PastHistory'. -/
def pastHistoryUptoCard : Claim7 := { stood := { row := pastHistoryUptoRow, standIns := [], harness := (true, "5ec2697e5f766d2ae05f229abd16b7528ea32892b339dd0bd1e99200e1ca4299"), looks := true }, kinds := [], alts := [], laidByText := true, laidKinds := [.data, .data, .data, .handle], laidTests := true, laidLooks := .later }
def PastHistoryUptoCardSaid : Prop := Claim7.holds Tryz.pinned (.plain (OpenSpec.upto pastHistorySpec)) pastHistoryUptoCard

/-- THE SECOND FORM's CARD OF 'recensionlaw16.PastParts'. -/
def pastPartsUptoCard : Claim7 := { stood := { row := pastPartsUptoRow, standIns := [], harness := (true, "5ec2697e5f766d2ae05f229abd16b7528ea32892b339dd0bd1e99200e1ca4299"), looks := true }, kinds := [], alts := [], laidByText := true, laidKinds := [.data, .data, .data, .handle], laidTests := true, laidLooks := .later }
def PastPartsUptoCardSaid : Prop := Claim7.holds Tryz.pinned (.plain (OpenSpec.upto pastPartsSpec)) pastPartsUptoCard

/-- THE SECOND FORM's CARD OF 'recensionlaw16.PastLives'. -/
def pastLivesUptoCard : Claim7 := { stood := { row := pastLivesUptoRow, standIns := [], harness := (true, "5ec2697e5f766d2ae05f229abd16b7528ea32892b339dd0bd1e99200e1ca4299"), looks := true }, kinds := [], alts := [], laidByText := true, laidKinds := [.data, .data, .data, .handle], laidTests := true, laidLooks := .later }
def PastLivesUptoCardSaid : Prop := Claim7.holds Tryz.pinned (.plain (OpenSpec.upto pastLivesSpec)) pastLivesUptoCard

/-- THE SECOND FORM's CARD OF 'recensionlaw16.PastSubs'. -/
def pastSubsUptoCard : Claim7 := { stood := { row := pastSubsUptoRow, standIns := [], harness := (true, "5ec2697e5f766d2ae05f229abd16b7528ea32892b339dd0bd1e99200e1ca4299"), looks := true }, kinds := [], alts := [], laidByText := true, laidKinds := [.data, .data, .data, .handle], laidTests := true, laidLooks := .later }
def PastSubsUptoCardSaid : Prop := Claim7.holds Tryz.pinned (.plain (OpenSpec.upto pastSubsSpec)) pastSubsUptoCard
end Rows
end Go.Proofs.YtkelpbbekeelcaaGreatDoor
